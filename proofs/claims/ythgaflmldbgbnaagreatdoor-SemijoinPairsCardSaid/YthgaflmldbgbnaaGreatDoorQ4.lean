/- Parts of the proof, merged: G1, G2, G3, G4, G5, G6, G7, Z0, G8, G9, Y1, Y2, Y3, Y4, Y8, Y12. -/
import Derived.Test.YthgaflmldbgbnaaGreatDoorQ3
import Derived.Test.YthgaflmldbgbnaaGreatDoorQ1
import Derived.Lib.AppendStr
import Derived.Laws.IdiomStrings
import Derived.Test.YthgaflmldbgbnaaGreatDoorQ2
import Derived.Maps.OwnSet
import Derived.Maps.RangeWalk
import Derived.StringKeys
import Derived.Deep.DeepCutAuto
import Derived.Deep.CutBlock
import Derived.Deep.LoopGhost
import Derived.StillTailTactics
import Derived.Test.YthgaflmldbgbnaaGreatDoorRows

set_option maxRecDepth 100000
namespace Go.Proofs.YthgaflmldbgbnaaGreatDoor
section
open Go.RowKit Go.Sort

def setN (vs : List Nat) : Nat := vs.foldl (fun s v => s ||| 2 ^ v) 0
theorem setN_snoc (vs : List Nat) (v : Nat) : setN (vs ++ [v]) = setN vs ||| 2 ^ v := by unfold setN; rw [List.foldl_append]; rfl
theorem setN_bit (vs : List Nat) (v : Nat) : (setN vs).testBit v = decide (v ∈ vs) := by
  have h : ∀ (l : List Nat) (s : Nat), (l.foldl (fun s v => s ||| 2 ^ v) s).testBit v = (s.testBit v || decide (v ∈ l)) := by
    intro l
    induction l with
    | nil => intro s; simp
    | cons a t ih =>
      intro s
      rw [List.foldl_cons, ih, Nat.testBit_or, Nat.testBit_two_pow]
      by_cases e : a = v
      · subst e; simp
      · have : ¬ v = a := fun h => e h.symm
        simp [e, this]
  have := h vs 0
  simpa [setN] using this
theorem setN_lt {vs : List Nat} (h : ∀ v ∈ vs, v < 32) : setN vs < 2 ^ 32 := by
  have hh : ∀ (l : List Nat) (s : Nat), (∀ v ∈ l, v < 32) → s < 2 ^ 32 → l.foldl (fun s v => s ||| 2 ^ v) s < 2 ^ 32 := by
    intro l
    induction l with
    | nil => intro s _ hs; exact hs
    | cons a t ih =>
      intro s hl hs
      rw [List.foldl_cons]
      exact ih _ (fun v hv => hl v (List.mem_cons_of_mem _ hv)) (Nat.or_lt_two_pow hs (Nat.pow_lt_pow_right (by decide) (hl a List.mem_cons_self)))
  exact hh vs 0 h (by decide)

set_option maxHeartbeats 4000000 in
theorem sjSet_any (VA PA : Option Addr) (VC PC m : Nat) (ar : Int) (vs : List Nat) (w : World) (hv : SlI .i64 w.heap.size w VA (vs.map Int.ofNat)) (hl : vs.length ≤ 1000000) (h32 : ∀ v ∈ vs, v < 32) :
    Calls Tryz.prog 42 #[.agg #[.slice VA vs.length VC, .int .i64 ar, .slice PA m PC]] w fun e w' => e = .returned (.int .u32 (setN vs : Nat)) ∧ Ext w w' := by
  obtain ⟨W0, hW0⟩ : ∃ W0, W0 = w.alloc (.cells #[.slice VA vs.length VC, .int .i64 ar, .slice PA m PC] 36) := ⟨_, rfl⟩
  have HX0 : Hid (Ext w W0) := by show Ext _ _; rw [hW0]; exact (Ext.refl w).alloc _
  have HR0 : Hid (Row W0 w.heap.size 36 [.slice VA vs.length VC, .int .i64 ar, .slice PA m PC]) := by show Row _ _ _ _; rw [hW0]; exact Row.new w _ _
  have k0 : W0.cell? ⟨w.heap.size, 0, none⟩ = some (.slice VA vs.length VC) := HR0.out.cell 0
  have k1 := HR0.out.lt
  have HV := Lib.hid hv
  have H32 := Lib.hid h32
  have HW0 := Lib.hid hW0
  clear hv h32 hW0
  go_enter Tryz.func42, Tryz.ntmps42
  go_upto_region 1 with (fail)
  rw [← HW0.out]
  clear HW0
  go_wp2_with fail
  go_loopw [3, 9] (fun vo c wx => ∃ k : Nat, k ≤ vs.length ∧ c = .int .i64 k ∧ vo = .int .u32 (setN (vs.take k) : Nat) ∧ wx = W0) (fun _ c _ => vs.length - (intOf c).toNat)
  case atStart => exact ⟨0, Nat.zero_le _, rfl, rfl, rfl⟩
  case round =>
    obtain ⟨k, hk, rfl, rfl, rfl⟩ := hrel
    by_cases hkl : k < vs.length
    · have r0 : (0 : Int) ≤ (k : Int) := by omega
      have r1 : (k : Int) < (vs.length : Int) := by omega
      have r3 : IntKind.i64.wrap ((k : Int) + 1) = ((k + 1 : Nat) : Int) := by rw [IntWalk.i64_in _ (by omega)]; omega
      obtain ⟨b, o, rfl, hb, hc⟩ := HV.out (by intro h0; have := congrArg List.length h0; simp only [List.length_map, List.length_nil] at this; omega)
      have c0 : w.cell? ⟨b, o + k, none⟩ = some (.int .i64 (vs[k] : Nat)) := hc k _ (by simp [hkl])
      have c0 := (HX0.out.cell hb).trans c0
      have c1 := Nat.lt_of_lt_of_le hb HX0.out.size
      have hv32 := H32.out _ (List.getElem_mem hkl)
      have HST : Hid (setN (vs.take (k + 1)) = setN (vs.take k) ||| 2 ^ vs[k]) := by show _ = _; rw [List.take_succ_eq_append_getElem hkl, setN_snoc]
      have HLT : Hid (setN (vs.take k) < 2 ^ 32) := setN_lt fun v hv => H32.out v (List.mem_of_mem_take hv)
      clear hc hb
      generalize vs[k] = v at *
      generalize setN (vs.take k) = s at *
      have HBT : Hid (bits BinOp.or IntKind.u32 (s : Int) ((2 : Int) ^ v % 4294967296) = ((s ||| 2 ^ v : Nat) : Int)) := by
        have h1 : (2 : Int) ^ v % 4294967296 = ((2 ^ v : Nat) : Int) := by
          have h2 : 2 ^ v < 2 ^ 32 := Nat.pow_lt_pow_right (by decide) hv32
          have h3 : ((2 ^ v : Nat) : Int) = (2 : Int) ^ v := by simp
          rw [← h3]
          exact Int.emod_eq_of_lt (Int.natCast_nonneg _) (Int.ofNat_lt.2 (show 2 ^ v < 4294967296 from h2))
        show _ = _
        rw [h1]
        exact u32_or_nat s (2 ^ v) HLT.out (Nat.pow_lt_pow_right (by decide) hv32)
      go_wp2_with fail
      go_roundw
      case rel => exact ⟨k + 1, hkl, by go_num, by rw [HST.out, HBT.out], trivial⟩
      case measure => simp [intOf]; omega
    · obtain rfl : k = vs.length := by omega
      have r1 : ¬ (vs.length : Int) < (vs.length : Int) := by omega
      rw [List.take_length]
      go_wp2_with fail
      exact bodyPost_ret (v := .int .u32 (setN vs : Nat)) (by simp [results, Tryz.results42, go_sem]) rfl ⟨rfl, HX0.out⟩

theorem colsF_succ (us ks : List Nat) (k : Nat) (h : k < us.length) : (List.range (k + 1)).filter (fun i => decide (us.getD i 0 ∈ ks)) = (List.range k).filter (fun i => decide (us.getD i 0 ∈ ks)) ++ (if us[k] ∈ ks then [k] else []) := by
  have e : us.getD k 0 = us[k] := by simp [h]
  rw [List.range_succ, List.filter_append]
  congr 1
  by_cases hm : us[k] ∈ ks
  · rw [if_pos hm, List.filter_cons_of_pos (by rw [e]; simpa using hm)]; rfl
  · rw [if_neg hm, List.filter_cons_of_neg (by rw [e]; simpa using hm)]; rfl

set_option maxHeartbeats 4000000 in
theorem sjColumns_any (VA PA : Option Addr) (VC PC m M : Nat) (ar : Int) (vs ks : List Nat) (w : World) (hv : SlI .i64 w.heap.size w VA (vs.map Int.ofNat)) (hl : vs.length ≤ 1000000) (h32 : ∀ v ∈ vs, v < 32) (hM : M < 4294967296) (hbit : ∀ v ∈ vs, M / 2 ^ v % 2 = if v ∈ ks then 1 else 0) :
    Calls Tryz.prog 51 #[.agg #[.slice VA vs.length VC, .int .i64 ar, .slice PA m PC], .int .u32 (M : Nat)] w fun e w' => ∃ v, e = .returned v ∧ w'.ownsRow w.heap.size 3 1 v (colsF vs ks).length ((colsF vs ks).map fun i : Nat => Value.int .i64 (i : Nat)) ∧ Below w.heap.size w w' := by
  obtain ⟨W0, hW0⟩ : ∃ W0, W0 = w.alloc (.cells #[.slice VA vs.length VC, .int .i64 ar, .slice PA m PC] 36) := ⟨_, rfl⟩
  have HX0 : Hid (Ext w W0) := by show Ext _ _; rw [hW0]; exact (Ext.refl w).alloc _
  have HR0 : Hid (Row W0 w.heap.size 36 [.slice VA vs.length VC, .int .i64 ar, .slice PA m PC]) := by show Row _ _ _ _; rw [hW0]; exact Row.new w _ _
  have k0 : W0.cell? ⟨w.heap.size, 0, none⟩ = some (.slice VA vs.length VC) := HR0.out.cell 0
  have k1 := HR0.out.lt
  have HV := Lib.hid hv
  have H32 := Lib.hid h32
  have HBI := Lib.hid hbit
  have HW0 := Lib.hid hW0
  obtain ⟨B, hB⟩ : ∃ B, B = W0.heap.size := ⟨_, rfl⟩
  have HBE := Lib.hid hB
  clear hv h32 hbit hW0 hB
  go_enter Tryz.func51, Tryz.ntmps51
  go_upto_region 1 with (fail)
  rw [← HW0.out]
  clear HW0
  go_wp2_with fail
  go_loopw [5, 11] (fun vo c wx => ∃ k : Nat, k ≤ vs.length ∧ c = .int .i64 k ∧ wx.ownsRow B 3 1 vo ((List.range k).filter fun i => decide (vs.getD i 0 ∈ ks)).length (((List.range k).filter fun i => decide (vs.getD i 0 ∈ ks)).map fun i : Nat => Value.int .i64 (i : Nat)) ∧ Below B W0 wx) (fun _ c _ => vs.length - (intOf c).toNat)
  case atStart => exact ⟨0, Nat.zero_le _, rfl, own_nil _ _ _ _, Below.refl _ _⟩
  case round =>
    obtain ⟨k, hk, rfl, ho, hbr⟩ := hrel
    have HO := Lib.hid ho
    have HBR := Lib.hid hbr
    clear ho hbr
    have hBz : B ≤ wr.heap.size := by have h1 := HBE.out; have h2 := HBR.out.size; omega
    by_cases hkl : k < vs.length
    · have r0 : (0 : Int) ≤ (k : Int) := by omega
      have r1 : (k : Int) < (vs.length : Int) := by omega
      have r3 : IntKind.i64.wrap ((k : Int) + 1) = ((k + 1 : Nat) : Int) := by rw [IntWalk.i64_in _ (by omega)]; omega
      obtain ⟨b, o, rfl, hb, hc⟩ := HV.out (by intro h0; have := congrArg List.length h0; simp only [List.length_map, List.length_nil] at this; omega)
      have c0 : w.cell? ⟨b, o + k, none⟩ = some (.int .i64 (vs[k] : Nat)) := hc k _ (by simp [hkl])
      have c0 := (HBR.out.cell (p := ⟨b, o + k, none⟩) (by have := HBE.out; have := HX0.out.size; show b < B; omega)).trans ((HX0.out.cell hb).trans c0)
      have c1 : b < wr.heap.size := by have := HX0.out.size; have := HBR.out.size; omega
      have hv32 := H32.out _ (List.getElem_mem hkl)
      have hbt := HBI.out _ (List.getElem_mem hkl)
      have HST := Lib.hid (colsF_succ vs ks k hkl)
      have HLE : Hid (((List.range k).filter fun i => decide (vs.getD i 0 ∈ ks)).length + 1 ≤ 1000001) := by
        have := List.length_filter_le (fun i => decide (vs.getD i 0 ∈ ks)) (List.range k)
        rw [List.length_range] at this
        show _ ≤ _
        omega
      clear hc hb
      generalize vs[k] = v at *
      generalize ((List.range k).filter fun i => decide (vs.getD i 0 ∈ ks)) = cs at *
      have s0 : (0 : Int) ≤ (v : Int) := by omega
      have s1 : (v : Int) ≤ 32 := by omega
      have HBT := Lib.hid hbt
      clear hbt
      have HQ : Hid ((bits BinOp.and IntKind.u32 ((M : Int) / (2 : Int) ^ v) 1 == 1) = decide (v ∈ ks)) := by
        have h1 : (M : Int) / (2 : Int) ^ v = ((M / 2 ^ v : Nat) : Int) := by
          have h3 : ((2 ^ v : Nat) : Int) = (2 : Int) ^ v := by simp
          rw [← h3]
          exact (Int.natCast_ediv M (2 ^ v)).symm
        have h2 := u32_and_nat (M / 2 ^ v) 1 (Nat.lt_of_le_of_lt (Nat.div_le_self _ _) hM) (by decide)
        show _ = _
        rw [h1]
        have h4 : bits BinOp.and IntKind.u32 ((M / 2 ^ v : Nat) : Int) 1 = ((M / 2 ^ v % 2 : Nat) : Int) := by
          rw [← Nat.and_one_is_mod]
          exact h2
        rw [h4, HBT.out]
        by_cases hm : v ∈ ks
        · rw [if_pos hm, decide_eq_true hm]; rfl
        · rw [if_neg hm, decide_eq_false hm]; rfl
      have k0 := (HR0.out.below HBR.out (by have := HBE.out; omega)).cell 0
      by_cases hm : v ∈ ks
      · have q := HQ.out
        rw [decide_eq_true hm] at q
        have HST2 := HST.out
        rw [if_pos hm] at HST2
        have HST2 := Lib.hid HST2
        clear HST HQ k0
        go_wp2_with (first
          | (at_builtin; go_loud (refine app1Int27 rfl (.tmp 21) (.tmp 23) rfl B u5 cs.length (cs.map fun i : Nat => Value.int .i64 (i : Nat)) rfl (by exact own_keep HO.out ((Ext.refl wr).alloc _).below) wr.heap.size (k : Int) rfl (by exact (Row.new wr 3 [.int .i64 (k : Nat)]).cell 0) (by have := HLE.out; omega) (by simp; omega) ?_); intro v5 w5 hown hg)
          | fail)
        have HO5 := Lib.hid hown
        have HB5 : Hid (Below B W0 w5) := by
          have hb1 : Below B W0 (wr.alloc (.cells #[.int .i64 (k : Nat)] 3)) := Below.then HBR.out ((Ext.refl wr).alloc _).below hBz
          exact hb1.grown hg (by simp; omega) (fun j hj => own_base HO.out hj)
        clear hown hg
        go_wp2_with fail
        go_roundw
        case rel => exact ⟨k + 1, hkl, by go_num, by rw [HST2.out, List.length_append, List.map_append]; exact HO5.out, HB5.out⟩
        case measure => simp [intOf]; omega
      · have q := HQ.out
        rw [decide_eq_false hm] at q
        have HST2 := HST.out
        rw [if_neg hm, List.append_nil] at HST2
        have HST2 := Lib.hid HST2
        clear HST HQ k0
        go_wp2_with fail
        go_roundw
        case rel => exact ⟨k + 1, hkl, by go_num, by rw [HST2.out]; exact HO.out, HBR.out⟩
        case measure => simp [intOf]; omega
    · obtain rfl : k = vs.length := by omega
      have r1 : ¬ (vs.length : Int) < (vs.length : Int) := by omega
      have HBW : Hid (Below w.heap.size w wr) := Below.then HX0.out.below (by have := HBR.out; rw [HBE.out] at this; exact this) HX0.out.size
      have HOW : Hid (wr.ownsRow w.heap.size 3 1 u5 (colsF vs ks).length ((colsF vs ks).map fun i : Nat => Value.int .i64 (i : Nat))) := own_weaken HO.out (by have h1 := HBE.out; have h2 := HX0.out.size; omega)
      clear HO
      go_wp2_with fail
      go_ret
      exact ⟨_, rfl, HOW.out, HBW.out⟩
end
section
open Go.RowKit Go.Sort

theorem u8InfoG : (Tryz.prog.info? 5).map (fun i => (i.zero, i.size, i.bytes)) = some (some (.int .u8 0), 1, 1) := by kernel_rfl
def digS (d : Nat) : ByteArray := ⟨#[UInt8.ofNat (48 + d)]⟩
def digV (d : Nat) : Value := .int .u8 ((48 + d : Nat) : Int)
theorem digCells {d : Nat} (h : d < 10) : Lib.strCells (digS d) = [digV d] := by
  have hd : d = 0 ∨ d = 1 ∨ d = 2 ∨ d = 3 ∨ d = 4 ∨ d = 5 ∨ d = 6 ∨ d = 7 ∨ d = 8 ∨ d = 9 := by omega
  rcases hd with rfl | rfl | rfl | rfl | rfl | rfl | rfl | rfl | rfl | rfl <;> rfl

theorem own_sliceG {w : World} {base size : Nat} {e : TypeId} {v : Value} {n : Nat} {xs : List Value} (h : w.ownsRow base e size v n xs) : ∃ A C, v = .slice A n C := by
  rcases h.2 with ⟨rfl, hz⟩ | ⟨g, cap, cur, rfl, _⟩
  · exact ⟨none, 0, by rw [hz]⟩
  · exact ⟨_, cap, rfl⟩

set_option maxHeartbeats 2000000 in
theorem isSmall_any (d : Nat) (h : d < 10) (w : World) : Calls Tryz.prog 119 #[.int .i64 (d : Nat)] w fun e w' => e = .returned (.string (digS d)) ∧ w' = w := by
  have hd : d = 0 ∨ d = 1 ∨ d = 2 ∨ d = 3 ∨ d = 4 ∨ d = 5 ∨ d = 6 ∨ d = 7 ∨ d = 8 ∨ d = 9 := by omega
  rcases hd with rfl | rfl | rfl | rfl | rfl | rfl | rfl | rfl | rfl | rfl
  · go_enter Tryz.func119, Tryz.ntmps119
    go_wp2
    go_ret
    exact ⟨rfl, rfl⟩
  · go_enter Tryz.func119, Tryz.ntmps119
    go_wp2
    go_ret
    exact ⟨rfl, rfl⟩
  · go_enter Tryz.func119, Tryz.ntmps119
    go_wp2
    go_ret
    exact ⟨rfl, rfl⟩
  · go_enter Tryz.func119, Tryz.ntmps119
    go_wp2
    go_ret
    exact ⟨rfl, rfl⟩
  · go_enter Tryz.func119, Tryz.ntmps119
    go_wp2
    go_ret
    exact ⟨rfl, rfl⟩
  · go_enter Tryz.func119, Tryz.ntmps119
    go_wp2
    go_ret
    exact ⟨rfl, rfl⟩
  · go_enter Tryz.func119, Tryz.ntmps119
    go_wp2
    go_ret
    exact ⟨rfl, rfl⟩
  · go_enter Tryz.func119, Tryz.ntmps119
    go_wp2
    go_ret
    exact ⟨rfl, rfl⟩
  · go_enter Tryz.func119, Tryz.ntmps119
    go_wp2
    go_ret
    exact ⟨rfl, rfl⟩
  · go_enter Tryz.func119, Tryz.ntmps119
    go_wp2
    go_ret
    exact ⟨rfl, rfl⟩

def DigPost (B : Nat) (v : Value) (n : Nat) (xs : List Value) (d : Nat) (w : World) (e : Ending) (w' : World) : Prop :=
  ∃ v', e = .returned v' ∧ w'.ownsRow B 5 1 v' (n + 1) (xs ++ [digV d]) ∧ w.grownBy w' v.ownBlock

set_option maxHeartbeats 2000000 in
theorem isAppendUint_any (B : Nat) (v : Value) (n : Nat) (xs : List Value) (d : Nat) (h : d < 10) (w : World) (hown : w.ownsRow B 5 1 v n xs) (hB : B ≤ w.heap.size) (hn : n ≤ 1000000) :
    Calls Tryz.prog 114 #[v, .int .u64 (d : Nat), .int .i64 10] w (DigPost B v n xs d w) := by
  obtain ⟨i0, hi0, hz0, hz1, hz2⟩ := info_parts u8InfoG
  have HO := Lib.hid hown
  have r1 : (d : Int) < 100 := by omega
  have r2 : IntKind.i64.wrap (d : Int) = (d : Int) := IntWalk.i64_in _ (by omega)
  have HS := Lib.hid (isSmall_any d h w)
  have HC := Lib.hid (digCells h)
  clear hown
  obtain ⟨A, C, rfl⟩ := own_sliceG HO.out
  go_enter Tryz.func114, Tryz.ntmps114
  go_wp2_with fail
  refine HS.out.mono ?_
  rintro e w1 ⟨rfl, rfl⟩
  go_wp2_with (first
    | (at_builtin; go_loud (refine Lib.wpList_append_own_string _ rfl (.tmp 13) (.tmp 16) 158 9 rfl B 5 i0 Tryz.underlying158 Tryz.underlying9 hi0 hz0 hz1 hz2 (.slice A n C) n xs rfl HO.out (digS d) rfl (by show n + 1 ≤ _; simp only [maxLen]; omega) (by show n + 1 ≤ _; omega) hB ?_); intro v5 w5 h5 hg hni)
    | fail)
  rw [HC.out] at h5
  have HO5 : Hid (w5.ownsRow B 5 1 v5 (n + 1) (xs ++ [digV d])) := h5
  have HG := Lib.hid hg
  clear h5 hg hni
  go_wp2_with fail
  go_ret
  exact ⟨_, rfl, HO5.out, HG.out⟩

set_option maxHeartbeats 2000000 in
theorem isAppendInt_any (B : Nat) (v : Value) (n : Nat) (xs : List Value) (d : Nat) (h : d < 10) (w : World) (hown : w.ownsRow B 5 1 v n xs) (hB : B ≤ w.heap.size) (hn : n ≤ 1000000) :
    Calls Tryz.prog 105 #[v, .int .i64 (d : Nat), .int .i64 10] w (DigPost B v n xs d w) := by
  have HC := Lib.hid (isAppendUint_any B v n xs d h w hown hB hn)
  obtain ⟨A, C, rfl⟩ := own_sliceG hown
  have r1 : ¬ (d : Int) < 0 := by omega
  have r2 : IntKind.u64.wrap (d : Int) = (d : Int) := by
    have hd : d = 0 ∨ d = 1 ∨ d = 2 ∨ d = 3 ∨ d = 4 ∨ d = 5 ∨ d = 6 ∨ d = 7 ∨ d = 8 ∨ d = 9 := by omega
    rcases hd with rfl | rfl | rfl | rfl | rfl | rfl | rfl | rfl | rfl | rfl <;> rfl
  clear hown
  go_enter Tryz.func105, Tryz.ntmps105
  go_wp2_with fail
  refine HC.out.mono ?_
  rintro e w1 ⟨v', rfl, h1, h2⟩
  have H1 := Lib.hid h1
  have H2 := Lib.hid h2
  obtain ⟨A', C', rfl⟩ := own_sliceG h1
  clear h1 h2
  go_wp2_with fail
  go_ret
  exact ⟨_, rfl, H1.out, H2.out⟩
set_option maxHeartbeats 2000000 in
theorem scAppendInt_any (B : Nat) (v : Value) (n : Nat) (xs : List Value) (d : Nat) (h : d < 10) (w : World) (hown : w.ownsRow B 5 1 v n xs) (hB : B ≤ w.heap.size) (hn : n ≤ 1000000) :
    Calls Tryz.prog 91 #[v, .int .i64 (d : Nat), .int .i64 10] w (DigPost B v n xs d w) := by
  have HC := Lib.hid (isAppendInt_any B v n xs d h w hown hB hn)
  obtain ⟨A, C, rfl⟩ := own_sliceG hown
  have r1 : ¬ (d : Int) < 0 := by omega
  have r2 : IntKind.u64.wrap (d : Int) = (d : Int) := by
    have hd : d = 0 ∨ d = 1 ∨ d = 2 ∨ d = 3 ∨ d = 4 ∨ d = 5 ∨ d = 6 ∨ d = 7 ∨ d = 8 ∨ d = 9 := by omega
    rcases hd with rfl | rfl | rfl | rfl | rfl | rfl | rfl | rfl | rfl | rfl <;> rfl
  clear hown
  go_enter Tryz.func91, Tryz.ntmps91
  go_wp2_with fail
  refine HC.out.mono ?_
  rintro e w1 ⟨v', rfl, h1, h2⟩
  have H1 := Lib.hid h1
  have H2 := Lib.hid h2
  obtain ⟨A', C', rfl⟩ := own_sliceG h1
  clear h1 h2
  go_wp2_with fail
  go_ret
  exact ⟨_, rfl, H1.out, H2.out⟩
end
section
open Go.RowKit Go.Sort

theorem runXU8G {w : World} (ty : TypeId) (base : Nat) (v : Value) (n : Nat) (xs : List Value) (hown : w.ownsRow base 5 1 v n xs)
    (A : Option Addr) (m C : Nat) (news : List Value) (hl : news.length = m * 1) (hz : Sl w.heap.size w A news) (h1 : ∀ u ∈ news, u.oneCell' = true) (hn : n + m ≤ 1000000) (hbase : base ≤ w.heap.size) :
    ∃ v' w', (Builtin.append_ #[158, 158] ty #[v, .slice A m C]).run Tryz.prog w = .ok v' w' ∧ w'.ownsRow base 5 1 v' (n + m) (xs ++ news) ∧ w.grownBy w' v.ownBlock ∧ (∀ b, v'.ownBlock = some b → v.ownBlock = some b ∨ b = w.heap.size) := by
  obtain ⟨i0, hi0, hz0, hz1, hz2⟩ := info_parts u8InfoG
  rcases A with _ | ad
  · have hy : m = 0 := by
      rcases Nat.eq_zero_or_pos m with h | h
      · exact h
      · obtain ⟨b, o, e', hb, hc⟩ := hz (fun h0 => by rw [h0] at hl; simp only [List.length_nil] at hl; omega)
        cases e'
    subst hy
    obtain rfl : news = [] := List.eq_nil_of_length_eq_zero (by rw [hl, Nat.zero_mul])
    exact ⟨v, w, run_append_none (P := Tryz.prog) w base 158 ty 5 i0 1 Tryz.underlying158 hi0 v n xs hown C, by simpa using hown, ⟨rfl, rfl, rfl, Nat.le_refl _, fun _ _ _ => rfl⟩, fun b hb => .inl hb⟩
  · have hcell : ∀ j u, news[j]? = some u → w.cell? (ad.add j) = some u := fun j u hu => by
      obtain ⟨b, o, e', hb, hc⟩ := hz (by intro h0; rw [h0] at hu; simp at hu)
      injection e' with e'
      subst e'
      rw [Addr.add_lit]
      exact hc j u hu
    obtain ⟨v', w', hrun, k2, k3, _, k5⟩ := run_append_own_at (P := Tryz.prog) w base 158 ty 5 i0 _ 1 1 Tryz.underlying158 hi0 hz0 hz1 hz2 rfl (by decide) v n xs hown ad m C news hl hcell h1 (by simp only [maxLen]; omega) (by omega) hbase
    exact ⟨v', w', hrun, k2, k3, fun b hb => by
      rcases k5 with k5 | k5
      · exact .inl (by rw [← k5]; exact hb)
      · rw [k5] at hb; injection hb with hb; exact .inr hb.symm⟩
theorem appXU8G {w : World} {ops : Array Oper} {rest : List Oper} {o : Oper} {a : Act} {Q : Exit → Act → World → Prop} (hgd : o.guard = none) (s x : Operand)
    (ho : o.op = .call { callee := .builtin .append, args := #[s, x], argTypes := #[158, 158] })
    (base : Nat) (v : Value) (n : Nat) (xs : List Value) (hs0 : a.eval s = v) (hown : w.ownsRow base 5 1 v n xs)
    (A : Option Addr) (m C : Nat) (news : List Value) (hx : a.eval x = .slice A m C) (hl : news.length = m * 1) (hz : Sl w.heap.size w A news) (h1 : ∀ u ∈ news, u.oneCell' = true)
    (hn : n + m ≤ 1000000) (hbase : base ≤ w.heap.size)
    (h : ∀ v' w', w'.ownsRow base 5 1 v' (n + m) (xs ++ news) → w.grownBy w' v.ownBlock → (∀ b, v'.ownBlock = some b → v.ownBlock = some b ∨ b = w.heap.size) → wpList Tryz.prog ops Q rest (a.put o.dst v') w') : wpList Tryz.prog ops Q (o :: rest) a w := by
  refine wpList_plain hgd fun K hK => ?_
  obtain ⟨v', w', hrun, k2, k3, k4⟩ := runXU8G o.type base v n xs hown A m C news hl hz h1 hn hbase
  unfold Oper.wp execOp
  simp only [ho, resolve, invoke, builtin, Sem.run_bind, Sem.run_pure, Result.andThen_ok, List.map_toArray, List.map_cons, List.map_nil, hs0, hx, hrun]
  exact hK _ _ (h v' w' k2 k3 k4)

def SmallV (v : RL.V) : Prop := v.kind = 1 ∧ (∃ d : Nat, d < 10 ∧ v.int = d) ∧ v.str = ⟨#[]⟩
def kyV (v : RL.V) : List Value := [digV 1, .int .u8 32, digV v.int.toNat, .int .u8 32, digV 0, .int .u8 32]
def kyC (x : RL.R) : List Value := x.flatMap kyV
theorem kyC_len (x : RL.R) : (kyC x).length = x.length * 6 := by
  induction x with
  | nil => rfl
  | cons a t ih =>
    unfold kyC at ih ⊢
    rw [List.flatMap_cons, List.length_append, ih, List.length_cons]
    show 6 + _ = _
    omega
def kyB (x : RL.R) : List UInt8 := x.flatMap fun v => [49, 32, UInt8.ofNat (48 + v.int.toNat), 32, 48, 32]
theorem kyB_cells : ∀ (x : RL.R), (∀ v ∈ x, SmallV v) → (kyB x).map (fun b : UInt8 => Value.int .u8 (b.toNat : Int)) = kyC x
  | [], _ => rfl
  | v :: t, h => by
    have ih := kyB_cells t fun u hu => h u (List.mem_cons_of_mem _ hu)
    obtain ⟨-, ⟨d, hd, e⟩, -⟩ := h v List.mem_cons_self
    unfold kyB kyC at ih ⊢
    rw [List.flatMap_cons, List.flatMap_cons, List.map_append, ih]
    congr 1
    unfold kyV
    rw [e]
    have hh : d = 0 ∨ d = 1 ∨ d = 2 ∨ d = 3 ∨ d = 4 ∨ d = 5 ∨ d = 6 ∨ d = 7 ∨ d = 8 ∨ d = 9 := by omega
    rcases hh with rfl | rfl | rfl | rfl | rfl | rfl | rfl | rfl | rfl | rfl <;> rfl
theorem kyC_succ (x : RL.R) (k : Nat) (h : k < x.length) : kyC (x.take (k + 1)) = kyC (x.take k) ++ kyV x[k] := by
  unfold kyC
  rw [List.take_succ_eq_append_getElem h, List.flatMap_append, List.flatMap_singleton]

set_option maxHeartbeats 8000000 in
theorem rwKey_any (RA : Option Addr) (RC : Nat) (x : RL.R) (w : World) (hx : SlR w.heap.size w RA x) (hl : x.length ≤ 1000) (hs : ∀ v ∈ x, SmallV v) :
    Calls Tryz.prog 76 #[.slice RA x.length RC] w fun e w' => e = .returned (.string ⟨(kyB x).toArray⟩) ∧ Below w.heap.size w w' := by
  have HX := Lib.hid hx
  have HS := Lib.hid hs
  clear hx hs
  go_enter Tryz.func76, Tryz.ntmps76
  go_wp2_with fail
  go_loopw [3, 7] (fun vo c wx => ∃ k : Nat, k ≤ x.length ∧ c = .int .i64 k ∧ wx.ownsRow w.heap.size 5 1 vo (k * 6) (kyC (x.take k)) ∧ Below w.heap.size w wx) (fun _ c _ => x.length - (intOf c).toNat)
  case atStart => exact ⟨0, Nat.zero_le _, rfl, by rw [Nat.zero_mul]; exact own_nil _ _ _ _, Below.refl _ _⟩
  case round =>
    obtain ⟨k, hk, rfl, ho, hbr⟩ := hrel
    have HO0 := Lib.hid ho
    have HB0 := Lib.hid hbr
    clear ho hbr
    by_cases hkl : k < x.length
    · have r0 : (0 : Int) ≤ (k : Int) := by omega
      have r1 : (k : Int) < (x.length : Int) := by omega
      have r3 : IntKind.i64.wrap ((k : Int) + 1) = ((k + 1 : Nat) : Int) := by rw [IntWalk.i64_in _ (by omega)]; omega
      obtain ⟨b, o, rfl, hb, hc⟩ := HX.out (fun h0 => by have := rcells_length x; rw [h0] at this; simp only [List.length_nil] at this; omega)
      obtain ⟨g1, g2, g3⟩ := rcells_get x k x[k] (List.getElem?_eq_getElem hkl)
      have e1 := hc _ _ g1
      have e2 := hc _ _ g2
      have e3 := hc _ _ g3
      obtain ⟨hk1, ⟨d, hd, hk2⟩, hk3⟩ := HS.out x[k] (List.getElem_mem hkl)
      rw [hk1] at e1
      rw [hk2] at e2
      rw [hk3] at e3
      have HKS : Hid (kyC (x.take (k + 1)) = kyC (x.take k) ++ [digV 1, .int .u8 32, digV d, .int .u8 32, digV 0, .int .u8 32]) := by
        show _ = _
        rw [kyC_succ x k hkl]
        unfold kyV
        rw [hk2]
        rfl
      have e1 : w.cell? ⟨b, o + k * 3, none⟩ = some (.int .i64 1) := e1
      have e2 : w.cell? ⟨b, o + k * 3 + 1, none⟩ = some (.int .i64 (d : Nat)) := by rw [Nat.add_assoc]; exact e2
      have e3 : w.cell? ⟨b, o + k * 3 + 2, none⟩ = some (.string ⟨#[]⟩) := by rw [Nat.add_assoc]; exact e3
      obtain ⟨n0, hn0⟩ : ∃ n0, n0 = k * 6 := ⟨_, rfl⟩
      have hn1 : n0 ≤ 6000 := by omega
      obtain ⟨xs0, hxs0⟩ : ∃ xs0, xs0 = kyC (x.take k) := ⟨_, rfl⟩
      rw [← hn0, ← hxs0] at HO0
      rw [← hxs0] at HKS
      have HN0 := Lib.hid hn0
      clear hc g1 g2 g3 hk1 hk2 hk3 hn0 hxs0
      have c1 : wr.cell? ⟨b, o + k * 3, none⟩ = some (.int .i64 1) := (HB0.out.cell (p := ⟨b, o + k * 3, none⟩) hb).trans e1
      have l1 : b < wr.heap.size := Nat.lt_of_lt_of_le hb HB0.out.size
      have HC1 := Lib.hid (scAppendInt_any w.heap.size u3 (n0) (xs0) 1 (by decide) wr HO0.out (Nat.le_trans (Nat.le_refl _) HB0.out.size) (by omega))
      go_wp2_with fail
      refine HC1.out.mono ?_
      rintro e w1 ⟨v1, rfl, h1, h2⟩
      have HO1 := Lib.hid h1
      have HB1 : Hid (Below w.heap.size w w1) := HB0.out.grown h2 HB0.out.size (fun j hj => own_base HO0.out hj)
      clear h1 h2 HC1
      have HA2 := Lib.hid (own_keep HO1.out ((Ext.refl w1).alloc (.cells #[.int .u8 32] 5)).below)
      have HBA2 := Lib.hid (Below.then HB1.out ((Ext.refl w1).alloc (.cells #[.int .u8 32] 5)).below HB1.out.size)
      go_wp2_with (first
        | (at_builtin; go_loud (refine appXU8G rfl (.tmp 17) (.tmp 18) rfl w.heap.size v1 (n0 + 1) (xs0 ++ [digV 1]) rfl HA2.out (some ⟨w1.heap.size, 0, none⟩) 1 1 [.int .u8 32] rfl rfl (Row.new w1 5 [.int .u8 32]).sl (by simp [Value.oneCell']) (by omega) HBA2.out.size ?_); intro v2 w2 hown hg hat; refine Hid.out ?_)
        | fail)
      refine Lib.hid ?_
      have HO2 := Lib.hid hown
      have HB2 : Hid (Below w.heap.size w w2) := HBA2.out.grown hg HBA2.out.size (fun j hj => own_base HA2.out hj)
      clear hown hg hat
      have c2 : w2.cell? ⟨b, o + k * 3 + 1, none⟩ = some (.int .i64 (d : Nat)) := (HB2.out.cell (p := ⟨b, o + k * 3 + 1, none⟩) hb).trans e2
      have l2 : b < w2.heap.size := Nat.lt_of_lt_of_le hb HB2.out.size
      have HC3 := Lib.hid (scAppendInt_any w.heap.size v2 (n0 + 1 + 1) (xs0 ++ [digV 1] ++ [.int .u8 32]) d hd w2 HO2.out (Nat.le_trans (Nat.le_refl _) HB2.out.size) (by omega))
      go_wp2_with fail
      refine HC3.out.mono ?_
      rintro e w3 ⟨v3, rfl, h1, h2⟩
      have HO3 := Lib.hid h1
      have HB3 : Hid (Below w.heap.size w w3) := HB2.out.grown h2 HB2.out.size (fun j hj => own_base HO2.out hj)
      clear h1 h2 HC3
      have HA4 := Lib.hid (own_keep HO3.out ((Ext.refl w3).alloc (.cells #[.int .u8 32] 5)).below)
      have HBA4 := Lib.hid (Below.then HB3.out ((Ext.refl w3).alloc (.cells #[.int .u8 32] 5)).below HB3.out.size)
      go_wp2_with (first
        | (at_builtin; go_loud (refine appXU8G rfl (.tmp 27) (.tmp 28) rfl w.heap.size v3 (n0 + 1 + 1 + 1) (xs0 ++ [digV 1] ++ [.int .u8 32] ++ [digV d]) rfl HA4.out (some ⟨w3.heap.size, 0, none⟩) 1 1 [.int .u8 32] rfl rfl (Row.new w3 5 [.int .u8 32]).sl (by simp [Value.oneCell']) (by omega) HBA4.out.size ?_); intro v4 w4 hown hg hat; refine Hid.out ?_)
        | fail)
      refine Lib.hid ?_
      have HO4 := Lib.hid hown
      have HB4 : Hid (Below w.heap.size w w4) := HBA4.out.grown hg HBA4.out.size (fun j hj => own_base HA4.out hj)
      clear hown hg hat
      have c3 : w4.cell? ⟨b, o + k * 3 + 2, none⟩ = some (.string ⟨#[]⟩) := (HB4.out.cell (p := ⟨b, o + k * 3 + 2, none⟩) hb).trans e3
      have l3 : b < w4.heap.size := Nat.lt_of_lt_of_le hb HB4.out.size
      have HC5 := Lib.hid (scAppendInt_any w.heap.size v4 (n0 + 1 + 1 + 1 + 1) (xs0 ++ [digV 1] ++ [.int .u8 32] ++ [digV d] ++ [.int .u8 32]) 0 (by decide) w4 HO4.out (Nat.le_trans (Nat.le_refl _) HB4.out.size) (by omega))
      go_wp2_with fail
      refine HC5.out.mono ?_
      rintro e w5 ⟨v5, rfl, h1, h2⟩
      have HO5 := Lib.hid h1
      have HB5 : Hid (Below w.heap.size w w5) := HB4.out.grown h2 HB4.out.size (fun j hj => own_base HO4.out hj)
      clear h1 h2 HC5
      have HA6 := Lib.hid (own_keep HO5.out ((Ext.refl w5).alloc (.cells #[.int .u8 32] 5)).below)
      have HBA6 := Lib.hid (Below.then HB5.out ((Ext.refl w5).alloc (.cells #[.int .u8 32] 5)).below HB5.out.size)
      go_wp2_with (first
        | (at_builtin; go_loud (refine appXU8G rfl (.tmp 38) (.tmp 39) rfl w.heap.size v5 (n0 + 1 + 1 + 1 + 1 + 1) (xs0 ++ [digV 1] ++ [.int .u8 32] ++ [digV d] ++ [.int .u8 32] ++ [digV 0]) rfl HA6.out (some ⟨w5.heap.size, 0, none⟩) 1 1 [.int .u8 32] rfl rfl (Row.new w5 5 [.int .u8 32]).sl (by simp [Value.oneCell']) (by omega) HBA6.out.size ?_); intro v6 w6 hown hg hat; refine Hid.out ?_)
        | fail)
      refine Lib.hid ?_
      have HO6 := Lib.hid hown
      have HB6 : Hid (Below w.heap.size w w6) := HBA6.out.grown hg HBA6.out.size (fun j hj => own_base HA6.out hj)
      clear hown hg hat
      have c4 : w6.cell? ⟨b, o + k * 3 + 2, none⟩ = some (.string ⟨#[]⟩) := (HB6.out.cell (p := ⟨b, o + k * 3 + 2, none⟩) hb).trans e3
      have l4 : b < w6.heap.size := Nat.lt_of_lt_of_le hb HB6.out.size
      obtain ⟨i0, hi0, hz0, hz1, hz2⟩ := info_parts u8InfoG
      go_wp2_with (first
        | (at_builtin; go_loud (refine Lib.wpList_append_own_string _ rfl (.tmp 41) (.tmp 46) 158 9 rfl w.heap.size 5 i0 Tryz.underlying158 Tryz.underlying9 hi0 hz0 hz1 hz2 v6 (n0 + 1 + 1 + 1 + 1 + 1 + 1) (xs0 ++ [digV 1] ++ [.int .u8 32] ++ [digV d] ++ [.int .u8 32] ++ [digV 0] ++ [.int .u8 32]) rfl HO6.out ⟨#[]⟩ rfl (by show _ + 0 ≤ _; simp only [maxLen]; omega) (by show _ + 0 ≤ _; omega) HB6.out.size ?_); intro v7 w7 hown hg hni; refine Hid.out ?_)
        | fail)
      refine Lib.hid ?_
      have HO7 := Lib.hid hown
      have HB7 : Hid (Below w.heap.size w w7) := HB6.out.grown hg HB6.out.size (fun j hj => own_base HO6.out hj)
      clear hown hg hni
      go_wp2_with fail
      go_roundw
      case rel =>
        refine ⟨k + 1, hkl, by go_num, ?_, HB7.out⟩
        have h := HO7.out
        have e : (xs0 ++ [digV 1] ++ [.int .u8 32] ++ [digV d] ++ [.int .u8 32] ++ [digV 0] ++ [.int .u8 32]) ++ Lib.strCells ⟨#[]⟩ = kyC (x.take (k + 1)) := by rw [HKS.out]; simp [Lib.strCells]
        rw [e] at h
        have e2 : n0 + 1 + 1 + 1 + 1 + 1 + 1 + ByteArray.size ⟨#[]⟩ = (k + 1) * 6 := by have := HN0.out; show n0 + 1 + 1 + 1 + 1 + 1 + 1 + 0 = _; omega
        rw [e2] at h
        exact h
      case measure => simp [intOf]; omega
    · obtain rfl : k = x.length := by omega
      have r1 : ¬ (x.length : Int) < (x.length : Int) := by omega
      rw [List.take_length] at HO0
      have hcl := kyB_cells x HS.out
      have hlen : (kyB x).length = x.length * 6 := by have := kyC_len x; rw [← hcl, List.length_map] at this; exact this
      have HO := HO0.out
      rw [← hcl, ← hlen] at HO
      rcases HO.2 with ⟨hv, hz⟩ | ⟨g, cap, cur, hv, _⟩
      · subst hv
        have hnil : kyB x = [] := List.eq_nil_of_length_eq_zero hz
        have HN := Lib.hid hnil
        clear HO HO0 hcl hlen hz hnil
        have hcv : (convert 158 9 (.slice none 0 0)).run Tryz.prog wr = .ok (.string ⟨#[]⟩) wr := by
          rw [run_convert_bytes_string wr 158 9 5 none 0 0 Tryz.underlying158 Tryz.underlying5 Tryz.underlying9]
          rfl
        go_wp2_with fail
        go_ret
        exact ⟨by rw [HN.out]; rfl, HB0.out⟩
      · subst hv
        obtain ⟨l, hl2⟩ : ∃ l, l = kyB x := ⟨_, rfl⟩
        rw [← hl2] at HO hcl hlen ⊢
        have hcv := run_convert_bytes_back (P := Tryz.prog) wr 158 9 5 ⟨g, 0, none⟩ cap l Tryz.underlying158 Tryz.underlying5 Tryz.underlying9 (fun j hj => HO.cells (g := g) rfl j _ (by simp [hj]))
        have HBB := HB0
        have HL2 := Lib.hid hl2
        clear HO HO0 hcl hlen hl2
        go_wp2_with fail
        go_ret
        exact ⟨by show Ending.returned (.string ⟨l.toArray⟩) = _; rw [HL2.out], HBB.out⟩
end
section
open Go.RowKit Go.Sort

theorem zV_dv {x : RL.R} {c : Int} (h : 0 ≤ c ∧ c < x.length) : x.getD c.toNat zV ∈ x := by
  have h1 : c.toNat < x.length := by omega
  rw [List.getD_eq_getElem?_getD, List.getElem?_eq_getElem h1]
  exact List.getElem_mem h1

set_option maxHeartbeats 4000000 in
theorem sjKey_any (XA CA : Option Addr) (XC CC : Nat) (x : RL.R) (cs : List Int) (w : World) (hx : SlR w.heap.size w XA x) (hc : SlI .i64 w.heap.size w CA cs) (hxl : x.length ≤ 1000) (hcl : cs.length ≤ 1000) (hv : ∀ c ∈ cs, 0 ≤ c ∧ c < x.length) (hs : ∀ v ∈ x, SmallV v) :
    Calls Tryz.prog 53 #[.slice XA x.length XC, .slice CA cs.length CC] w fun e w' => e = .returned (.string ⟨(kyB (projF x cs)).toArray⟩) ∧ Below w.heap.size w w' := by
  have HP := Lib.hid (rwProject_ok XA CA XC CC x cs w hx hc (by omega) (by omega) hv)
  have HS := Lib.hid hs
  have HV := Lib.hid hv
  clear hx hc hs hv
  go_enter Tryz.func53, Tryz.ntmps53
  go_wp2_with fail
  refine HP.out.mono ?_
  rintro e w1 ⟨rfl, hr, hb⟩
  have hsl : SlR w1.heap.size w1 (some ⟨w.heap.size, 0, none⟩) (projF x cs) := hr.sl
  have hk := rwKey_any (some ⟨w.heap.size, 0, none⟩) cs.length (projF x cs) w1 hsl (by rw [projF_length]; exact hcl) (fun v hv => by
    obtain ⟨c, hc, rfl⟩ := List.mem_map.1 hv
    exact HS.out _ (zV_dv (HV.out c hc)))
  rw [projF_length] at hk
  have HK := Lib.hid hk
  have HB := Lib.hid hb
  clear hr hb hsl hk HP
  go_wp2_with fail
  refine HK.out.mono ?_
  rintro e w2 ⟨rfl, hb2⟩
  have HB2 := Lib.hid (Below.then HB.out hb2 HB.out.size)
  clear hb2 HK HB
  go_wp2_with fail
  go_ret
  exact ⟨rfl, HB2.out⟩

theorem kyB_inj : ∀ {x y : RL.R}, (∀ v ∈ x, SmallV v) → (∀ v ∈ y, SmallV v) → kyB x = kyB y → x = y
  | [], [], _, _, _ => rfl
  | [], v :: t, _, _, h => by unfold kyB at h; rw [List.flatMap_cons] at h; simp at h
  | v :: t, [], _, _, h => by unfold kyB at h; rw [List.flatMap_cons] at h; simp at h
  | v :: t, u :: s, hx, hy, h => by
    obtain ⟨a1, ⟨d, hd, a2⟩, a3⟩ := hx v List.mem_cons_self
    obtain ⟨b1, ⟨d', hd', b2⟩, b3⟩ := hy u List.mem_cons_self
    unfold kyB at h
    rw [List.flatMap_cons, List.flatMap_cons] at h
    simp only [List.cons_append, List.nil_append, List.cons.injEq, true_and] at h
    obtain ⟨h1, h2⟩ := h
    have e : d = d' := by
      rw [a2, b2] at h1
      have h3 := congrArg UInt8.toNat h1
      simp at h3
      omega
    have ht := kyB_inj (x := t) (y := s) (fun w hw => hx w (List.mem_cons_of_mem _ hw)) (fun w hw => hy w (List.mem_cons_of_mem _ hw)) h2
    rw [ht, RL.V.ext_iff.2 ⟨a1.trans b1.symm, by rw [a2, b2, e], a3.trans b3.symm⟩]
end
section
open Go.RowKit Go.Sort

def AtomPost (vs : List Int) (Y : List RL.R) (w : World) (e : Ending) (w' : World) : Prop :=
  ∃ VA VC RA RC, e = .returned (.tuple #[.agg #[.slice VA vs.length VC, .int .i64 (vs.length : Nat), .slice RA Y.length RC], .int .i64 0]) ∧ (∀ W : World, (∀ p : Addr, w.heap.size ≤ p.block → p.block < w'.heap.size → W.cell? p = w'.cell? p) → SlI .i64 w'.heap.size W VA vs ∧ SlRs w'.heap.size W RA Y) ∧ Y.length ≤ RC ∧ RC ≤ 9223372036854775807 ∧ vs.length ≤ VC ∧ VC ≤ 9223372036854775807 ∧ Below w.heap.size w w'

theorem own_cap {w : World} {base : Nat} {e : TypeId} {size : Nat} {A : Option Addr} {n C m : Nat} {xs : List Value} (h : w.ownsRow base e size (.slice A n C) m xs) : m ≤ C ∧ C ≤ 9223372036854775807 := by
  rcases h.2 with ⟨h1, h0⟩ | ⟨g, cap, cur, h1, _, _, h5, hm, _⟩
  · injection h1 with _ _ h3; omega
  · injection h1 with _ _ h3; subst h3; exact ⟨h5, by unfold maxLen at hm; omega⟩

set_option maxHeartbeats 8000000 in
theorem sjAtom_ok (VA XA : Option Addr) (VC XC : Nat) (vs : List Int) (X : List RL.R) (w : World) (hv : SlI .i64 w.heap.size w VA vs) (hX : SlRs w.heap.size w XA X) (hvl : vs.length ≤ 32) (hXo : RsOk X) (hXl : X.length ≤ 60000) (he : errF (vs.length : Nat) X = 0) :
    Calls Tryz.prog 54 #[.slice VA vs.length VC, .slice XA X.length XC] w (AtomPost vs (RL.ofF X) w) := by
  obtain ⟨W0, hW0⟩ : ∃ W0, W0 = w.alloc (.cells #[.slice none 0 0, .int .i64 0, .slice none 0 0] 36) := ⟨_, rfl⟩
  have hx0 : Ext w W0 := by rw [hW0]; exact (Ext.refl w).alloc _
  have HX0 := Lib.hid hx0
  have HR0 : Hid (Row W0 w.heap.size 36 [.slice none 0 0, .int .i64 0, .slice none 0 0]) := by show Row _ _ _ _; rw [hW0]; exact Row.new w _ _
  have HOF := Lib.hid (rlOf_any (vs.length : Nat) XA XC X W0 (by omega) (by omega) (hX.up hx0) hXo hXl)
  have HV : Hid (SlI .i64 W0.heap.size W0 VA vs) := (hv.ext (Nat.le_refl _) hx0).more hx0.size
  have HE := Lib.hid he
  have HW0 := Lib.hid hW0
  clear hx0 hv hX he hW0
  go_enter Tryz.func54, Tryz.ntmps54
  go_upto_region 1 with (fail)
  rw [← HW0.out]
  clear HW0
  go_wp2_with fail
  refine HOF.out.mono ?_
  rintro e w1 ⟨h1, -, hb1⟩
  obtain ⟨v, rfl, hnew⟩ := h1 HE.out
  obtain ⟨RA, RC, rfl, hc1, hc2, hfr⟩ := hnew
  obtain ⟨g6, hg6⟩ : ∃ g, g = w1.heap.size := ⟨_, rfl⟩
  obtain ⟨Y, hY⟩ : ∃ Y, Y = RL.ofF X := ⟨_, rfl⟩
  rw [← hY] at hc1 hfr ⊢
  obtain ⟨W2, hW2⟩ : ∃ W, W = w1.alloc (.cells #[.int .i64 (vs.length : Nat), .slice RA Y.length RC] 34) := ⟨_, rfl⟩
  have hx2 : Ext w1 W2 := by rw [hW2]; exact (Ext.refl w1).alloc _
  have HG6 : Hid (Row W2 g6 34 [.int .i64 (vs.length : Nat), .slice RA Y.length RC]) := by show Row _ _ _ _; rw [hW2, hg6]; exact Row.new w1 34 _
  have HB02 := Lib.hid (Below.then hb1 hx2.below hb1.size)
  have HR2 := Lib.hid (HR0.out.up HB02.out)
  have HBW := Lib.hid (Below.then HX0.out.below HB02.out HX0.out.size)
  have HFR := Lib.hid hfr
  have HZ0 : Hid (w.heap.size < W0.heap.size ∧ W0.heap.size ≤ w1.heap.size) := ⟨HR0.out.lt, hb1.size⟩
  have HX12 := Lib.hid hx2.below
  have HCC := Lib.hid (And.intro hc1 hc2)
  have HV2 : Hid (SlI .i64 W2.heap.size W2 VA vs) := (Sl.below HV.out HB02.out (Nat.le_refl _)).more HB02.out.size
  have HKP : Hid (∀ W, Below W2.heap.size W2 W → W.cell? ⟨g6, 0, none⟩ = some (.int .i64 (vs.length : Nat)) ∧ W.cell? ⟨g6, 1, none⟩ = some (.slice RA Y.length RC)) := fun W hb => ⟨(HG6.out.up hb).cell 0, (HG6.out.up hb).cell 1⟩
  have HCL := Lib.hid (cloneInt_any VA VC vs W2.drew HV2.out (by omega))
  have HNE : Hid (w.heap.size ≠ g6) := by have h1 := HR0.out.lt; have h2 := hb1.size; show _ ≠ _; omega
  have HYE := Lib.hid hY
  have HW2 := Lib.hid hW2
  have HGE := Lib.hid hg6
  clear h1 hb1 hc1 hc2 hfr hx2 hY hW2 hg6 HOF HV HR0
  go_upto_region 4 with (fail)
  rw [← HW2.out, ← HGE.out]
  clear HW2 HGE
  refine wp_region_held_drew (S := (fun w' => w'.cell? ⟨g6, 0, none⟩ = some (.int .i64 (vs.length : Nat)) ∧ w'.cell? ⟨g6, 1, none⟩ = some (.slice RA Y.length RC))) (by kernel_rfl) (HKP.out W2.drew (Below.refl _ _).drew) (fun hHeld => ?_)
  refine takeOp (i := 0) (v := ?_) (some 19) rfl rfl (by kernel_rfl) (by kernel_rfl) (by kernel_rfl) (fun _ _ _ h => h) (Or.inl ⟨by rfl, ?_⟩) (by assumption) ?_
  rotate_left 1
  · (intro w0 hSw; (try dsimp only at hSw); go_simp; try (with_reducible rfl))
  try simp only [Act.put, List.setIfInBounds_toArray, List.set_cons_succ, List.set_cons_zero]
  refine takeOp (i := 2) (v := ?_) (some 21) rfl rfl (by kernel_rfl) (by kernel_rfl) (by kernel_rfl) (fun _ _ _ h => h) (Or.inl ⟨by rfl, ?_⟩) (by assumption) ?_
  rotate_left 1
  · (intro w0 hSw; (try dsimp only at hSw); go_simp; try (with_reducible rfl))
  try simp only [Act.put, List.setIfInBounds_toArray, List.set_cons_succ, List.set_cons_zero]
  refine wpAnyH_ready (rs := [1]) (by kernel_rfl) (by simp) ?_
  refine AllReadyH.cons rfl (fun K hK => ?_) AllReadyH.nil
  go_simp
  refine HCL.out.mono ?_
  rintro e V1 ⟨v1, rfl, ho, hb⟩
  obtain ⟨A1, C1, rfl⟩ := own_sliceG ho
  have HO1 := Lib.hid ho
  have HV1 : Hid (Below W2.heap.size W2 V1) := Below.undrew hb
  have HR1 := Lib.hid (HR2.out.up HV1.out)
  clear ho hb
  go_wp2_with fail
  refine hK.out _ _ (HKP.out V1 HV1.out) (fun hHeld => ?_)
  clear hK K
  try simp only [Act.put, List.setIfInBounds_toArray, List.set_cons_succ, List.set_cons_zero]
  refine takeOp (i := 3) (v := ?_) (some 22) rfl rfl (by kernel_rfl) (by kernel_rfl) (by kernel_rfl) (fun _ _ _ h => h) (Or.inl ⟨by rfl, ?_⟩) (by assumption) ?_
  rotate_left 1
  · (intro w0 hSw; (try dsimp only at hSw); go_simp; try (with_reducible rfl))
  try simp only [Act.put, List.setIfInBounds_toArray, List.set_cons_succ, List.set_cons_zero]
  refine wpAnyH_ready (rs := [4]) (by kernel_rfl) (by simp) ?_
  refine AllReadyH.cons rfl (fun K hK => ?_) AllReadyH.nil
  have m0 : V1.cell? ⟨w.heap.size, 0, none⟩ = some (.slice none 0 0) := HR1.out.cell 0
  have m1 : V1.cell? ⟨w.heap.size, 1, none⟩ = some (.int .i64 0) := HR1.out.cell 1
  have m2 : V1.cell? ⟨w.heap.size, 2, none⟩ = some (.slice none 0 0) := HR1.out.cell 2
  have m3 := HR1.out.frozen 0
  have m4 := HR1.out.frozen 1
  have m5 := HR1.out.frozen 2
  have m6 := HR1.out.lt
  go_simp
  obtain ⟨V6, hV6⟩ : ∃ V', V' = ((V1.setCell ⟨w.heap.size, 0, none⟩ (.slice A1 vs.length C1)).setCell ⟨w.heap.size, 1, none⟩ (.int .i64 (vs.length : Nat))).setCell ⟨w.heap.size, 2, none⟩ (.slice RA Y.length RC) := ⟨_, rfl⟩
  rw [← hV6]
  have HR6 : Hid (Row V6 w.heap.size 36 [.slice A1 vs.length C1, .int .i64 (vs.length : Nat), .slice RA Y.length RC]) := by show Row _ _ _ _; rw [hV6]; exact ((HR1.out.set 0 _).set 1 _).set 2 _
  have K6 : V6.cell? ⟨g6, 0, none⟩ = some (.int .i64 (vs.length : Nat)) ∧ V6.cell? ⟨g6, 1, none⟩ = some (.slice RA Y.length RC) := by
    have h := HKP.out V1 HV1.out
    rw [hV6]
    exact ⟨far_cell HNE.out (far_cell HNE.out (far_cell HNE.out h.1)), far_cell HNE.out (far_cell HNE.out (far_cell HNE.out h.2))⟩
  have HV6 := Lib.hid hV6
  clear m0 m1 m2 m3 m4 m5 m6 hV6
  refine hK.out _ _ K6 (fun hHeld => ?_)
  clear hK K
  try simp only [Act.put, List.setIfInBounds_toArray, List.set_cons_succ, List.set_cons_zero]
  refine takeOp (i := 5) (v := ?_) (some 5) rfl rfl (by kernel_rfl) (by kernel_rfl) (by kernel_rfl) (fun _ _ _ h => h) (Or.inl ⟨by rfl, ?_⟩) (by assumption) ?_
  rotate_left 1
  · (intro w0 hSw; (try dsimp only at hSw); go_simp; try (with_reducible rfl))
  try simp only [Act.put, List.setIfInBounds_toArray, List.set_cons_succ, List.set_cons_zero]
  refine wpAnyH_done (by kernel_rfl) ?_ _
  have c0 := HR6.out.cell 0
  have c1 := HR6.out.cell 1
  have c2 := HR6.out.cell 2
  have c3 := HR6.out.lt
  clear hHeld
  go_wp2_with fail
  refine bodyPost_ret (v := .tuple #[.agg #[.slice A1 vs.length C1, .int .i64 (vs.length : Nat), .slice RA Y.length RC], .int .i64 0]) (by simp [results, Tryz.results54, go_sem, c0, c1, c2]) rfl ?_
  rw [← HYE.out]
  have hb1V : Below w1.heap.size w1 V1 := Below.then HX12.out HV1.out HX12.out.size
  have hcell : ∀ p : Addr, p.block ≠ w.heap.size → V6.cell? p = V1.cell? p := fun p hp => by
    rw [HV6.out, World.cell?_setCell_other _ _ _ _ (fun e => hp (by rw [← e])), World.cell?_setCell_other _ _ _ _ (fun e => hp (by rw [← e])), World.cell?_setCell_other _ _ _ _ (fun e => hp (by rw [← e]))]
  have hsz : V6.heap.size = V1.heap.size := by rw [HV6.out]; simp
  obtain ⟨A1', C1', e1, -, -, hown⟩ := Sl.of_own HO1.out
  injection e1 with e1
  subst e1
  refine ⟨A1, C1, RA, RC, rfl, fun W hag => ⟨fun hne => ?_, ?_⟩, HCC.out.1, HCC.out.2, (own_cap HO1.out).1, (own_cap HO1.out).2, ?_⟩
  · obtain ⟨b, o, e2, hb, hc⟩ := hown hne
    have hbase := own_base HO1.out (k := b) (by
      rw [e2]
      rcases HO1.out.2 with ⟨h0, _⟩ | ⟨g, cap, cur, h0, _⟩
      · rw [e2] at h0; cases h0
      · rw [e2] at h0; injection h0 with h0; cases h0; rfl)
    have hz : W2.heap.size ≤ b := hbase
    have h3 := HZ0.out
    have h4 := HX12.out.size
    exact ⟨b, o, e2, by rw [hsz]; exact hb, fun j u hu => (hag ⟨b, o + j, none⟩ (by show w.heap.size ≤ b; omega) (by rw [hsz]; exact hb)).trans ((hcell ⟨b, o + j, none⟩ (by show b ≠ w.heap.size; omega)).trans (hc j u hu))⟩
  · refine (HFR.out W fun p h1 h2 => ?_).more (by rw [hsz]; exact hb1V.size)
    have h3 := HZ0.out
    have h4 : w1.heap.size ≤ V6.heap.size := by rw [hsz]; exact hb1V.size
    rw [hag p (by omega) (by omega), hcell p (by omega)]
    exact hb1V.cell (p := p) h2
  · have hb : Below w.heap.size w V1 := Below.then HBW.out HV1.out HBW.out.size
    rw [HV6.out]
    exact ((hb.setCell (Nat.le_refl _) _).setCell (Nat.le_refl _) _).setCell (Nat.le_refl _) _
end
section
open Go.RowKit Go.Sort

structure FamOwn (B : Nat) (E : TypeId) (w : World) (f : List (Value × Nat × List Value)) : Prop where
  own : ∀ t ∈ f, w.ownsRow B E 1 t.1 t.2.1 t.2.2
  sep : f.Pairwise fun s t => ∀ b, s.1.ownBlock = some b → t.1.ownBlock ≠ some b
section
variable {B : Nat} {E : TypeId} {w w' : World} {f l1 l2 : List (Value × Nat × List Value)} {t : Value × Nat × List Value}
theorem FamOwn.nil : FamOwn B E w [] := ⟨fun t h => (by cases h), List.Pairwise.nil⟩
theorem FamOwn.keep (h : FamOwn B E w f) (hb : Below w.heap.size w w') : FamOwn B E w' f := ⟨fun t ht => own_keep (h.own t ht) hb, h.sep⟩
theorem FamOwn.grow (h : FamOwn B E w (l1 ++ t :: l2)) {v : Value} {n : Nat} {xs : List Value} (hown : w'.ownsRow B E 1 v n xs) (hg : w.grownBy w' t.1.ownBlock) (hat : ∀ b, v.ownBlock = some b → t.1.ownBlock = some b ∨ b = w.heap.size) : FamOwn B E w' (l1 ++ (v, n, xs) :: l2) := by
  obtain ⟨p1, p2, p3⟩ := List.pairwise_append.1 h.sep
  obtain ⟨p4, p5⟩ := List.pairwise_cons.1 p2
  have hl : ∀ s, s ∈ l1 → ∀ b, s.1.ownBlock = some b → t.1.ownBlock ≠ some b := fun s hs b hb => p3 s hs t List.mem_cons_self b hb
  have hr : ∀ s, s ∈ l2 → ∀ b, s.1.ownBlock = some b → t.1.ownBlock ≠ some b := fun s hs b hb h0 => p4 s hs b h0 hb
  have hlt : ∀ s, s ∈ l1 ∨ s ∈ l2 → ∀ b, s.1.ownBlock = some b → b < w.heap.size := fun s hs b hb => own_lt (h.own s (by rcases hs with hs | hs; exact List.mem_append_left _ hs; exact List.mem_append_right _ (List.mem_cons_of_mem _ hs))) b hb
  have hne : ∀ s, s ∈ l1 ∨ s ∈ l2 → ∀ b, s.1.ownBlock = some b → v.ownBlock ≠ some b := fun s hs b hb hv => by
    rcases hat b hv with h1 | h1
    · rcases hs with hs | hs
      · exact hl s hs b hb h1
      · exact hr s hs b hb h1
    · have := hlt s hs b hb
      omega
  refine ⟨fun s hs => ?_, List.pairwise_append.2 ⟨p1, List.pairwise_cons.2 ⟨fun s hs b hb h0 => hne s (.inr hs) b h0 hb, p5⟩, fun s hs u hu => ?_⟩⟩
  · rcases List.mem_append.1 hs with hs | hs
    · exact own_grown (h.own s (List.mem_append_left _ hs)) hg fun b hb e => hl s hs b hb e.symm
    · rcases List.mem_cons.1 hs with rfl | hs
      · exact hown
      · exact own_grown (h.own s (List.mem_append_right _ (List.mem_cons_of_mem _ hs))) hg fun b hb e => hr s hs b hb e.symm
  · rcases List.mem_cons.1 hu with rfl | hu
    · exact fun b hb => hne s (.inl hs) b hb
    · exact p3 s hs u (List.mem_cons_of_mem _ hu)
theorem FamOwn.add (h : FamOwn B E w f) {v : Value} {n : Nat} {xs : List Value} (hown : w'.ownsRow B E 1 v n xs) (hg : w.grownBy w' none) (hat : ∀ b, v.ownBlock = some b → b = w.heap.size) : FamOwn B E w' (f ++ [(v, n, xs)]) := by
  refine ⟨fun s hs => ?_, List.pairwise_append.2 ⟨h.sep, List.pairwise_singleton _ _, fun s hs u hu b hb h0 => ?_⟩⟩
  · rcases List.mem_append.1 hs with hs | hs
    · exact own_grown (h.own s hs) hg fun b hb e => (by cases e)
    · rw [List.mem_singleton.1 hs]; exact hown
  · rw [List.mem_singleton.1 hu] at h0
    have h1 := hat b h0
    have h2 := own_lt (h.own s hs) b hb
    omega
end
end
section
open Go.RowKit Go.Sort

def sumN (vs : List Nat) : Nat := vs.foldl (fun s v => s + 2 ^ v) 0
theorem sumN_snoc (vs : List Nat) (v : Nat) : sumN (vs ++ [v]) = sumN vs + 2 ^ v := by unfold sumN; rw [List.foldl_append]; rfl
theorem sum_set : ∀ (vs : List Nat), vs.Pairwise (· < ·) → (∀ n, (∀ v ∈ vs, v < n) → sumN vs < 2 ^ n) ∧ sumN vs = setN vs := by
  intro vs
  induction h : vs.length generalizing vs with
  | zero =>
    obtain rfl := List.eq_nil_of_length_eq_zero h
    exact fun _ => ⟨fun n _ => Nat.two_pow_pos n, rfl⟩
  | succ k ih =>
    intro hp
    obtain ⟨t, v, rfl⟩ : ∃ t v, vs = t ++ [v] := by
      have hne : vs ≠ [] := fun e => by rw [e] at h; cases h
      exact ⟨vs.dropLast, vs.getLast hne, (List.dropLast_concat_getLast hne).symm⟩
    have hl : t.length = k := by rw [List.length_append] at h; simp only [List.length_cons, List.length_nil] at h; omega
    obtain ⟨p1, _, p3⟩ := List.pairwise_append.1 hp
    obtain ⟨i1, i2⟩ := ih t hl p1
    have hv : ∀ u ∈ t, u < v := fun u hu => p3 u hu v (List.mem_singleton.2 rfl)
    have h1 := i1 v hv
    refine ⟨fun n hn => ?_, ?_⟩
    · have hvn := hn v (List.mem_append_right _ (List.mem_singleton.2 rfl))
      rw [sumN_snoc]
      have h2 : 2 ^ (v + 1) ≤ 2 ^ n := Nat.pow_le_pow_right (by decide) hvn
      rw [Nat.pow_succ] at h2
      omega
    · rw [sumN_snoc, setN_snoc, ← i2]
      have h3 := Nat.two_pow_add_eq_or_of_lt h1 1
      rw [Nat.mul_one] at h3
      rw [Nat.add_comm, h3, Nat.or_comm]

set_option maxHeartbeats 4000000 in
theorem r36Set_any (VA PA : Option Addr) (VC PC m : Nat) (vs : List Nat) (w : World) (hv : SlI .i64 w.heap.size w VA (vs.map Int.ofNat)) (hl : vs.length ≤ 1000000) (hp : vs.Pairwise (· < ·)) (h32 : ∀ v ∈ vs, v < 32) :
    Calls Tryz.prog 20 #[.agg #[.slice VA vs.length VC, .slice PA m PC]] w fun e w' => e = .returned (.int .u32 (setN vs : Nat)) ∧ Ext w w' := by
  obtain ⟨W0, hW0⟩ : ∃ W0, W0 = w.alloc (.cells #[.slice VA vs.length VC, .slice PA m PC] 45) := ⟨_, rfl⟩
  have HX0 : Hid (Ext w W0) := by show Ext _ _; rw [hW0]; exact (Ext.refl w).alloc _
  have HR0 : Hid (Row W0 w.heap.size 45 [.slice VA vs.length VC, .slice PA m PC]) := by show Row _ _ _ _; rw [hW0]; exact Row.new w _ _
  have k0 : W0.cell? ⟨w.heap.size, 0, none⟩ = some (.slice VA vs.length VC) := HR0.out.cell 0
  have k1 := HR0.out.lt
  have HV := Lib.hid hv
  have H32 := Lib.hid h32
  have HPW := Lib.hid hp
  have HW0 := Lib.hid hW0
  clear hv h32 hW0 hp
  go_enter Tryz.func20, Tryz.ntmps20
  go_upto_region 1 with (fail)
  rw [← HW0.out]
  clear HW0
  go_wp2_with fail
  go_loopw [3, 4] (fun vo c wx => ∃ k : Nat, k ≤ vs.length ∧ c = .int .i64 k ∧ vo = .int .u32 (sumN (vs.take k) : Nat) ∧ wx = W0) (fun _ c _ => vs.length - (intOf c).toNat)
  case atStart => exact ⟨0, Nat.zero_le _, rfl, rfl, rfl⟩
  case round =>
    obtain ⟨k, hk, rfl, rfl, rfl⟩ := hrel
    by_cases hkl : k < vs.length
    · have r0 : (0 : Int) ≤ (k : Int) := by omega
      have r1 : (k : Int) < (vs.length : Int) := by omega
      have r3 : IntKind.i64.wrap ((k : Int) + 1) = ((k + 1 : Nat) : Int) := by rw [IntWalk.i64_in _ (by omega)]; omega
      obtain ⟨b, o, rfl, hb, hc⟩ := HV.out (by intro h0; have := congrArg List.length h0; simp only [List.length_map, List.length_nil] at this; omega)
      have c0 : w.cell? ⟨b, o + k, none⟩ = some (.int .i64 (vs[k] : Nat)) := hc k _ (by simp [hkl])
      have c0 := (HX0.out.cell hb).trans c0
      have c1 := Nat.lt_of_lt_of_le hb HX0.out.size
      have hv32 := H32.out _ (List.getElem_mem hkl)
      have HST : Hid (sumN (vs.take (k + 1)) = sumN (vs.take k) + 2 ^ vs[k]) := by show _ = _; rw [List.take_succ_eq_append_getElem hkl, sumN_snoc]
      have HLT : Hid (sumN (vs.take (k + 1)) < 2 ^ 32) := (sum_set _ (HPW.out.sublist (List.take_sublist _ _))).1 32 fun v hv => H32.out v (List.mem_of_mem_take hv)
      clear hc hb
      generalize vs[k] = v at *
      have hlt := HLT.out
      rw [HST.out] at hlt
      generalize sumN (vs.take k) = s at *
      obtain ⟨p, hp⟩ : ∃ p : Nat, p = 2 ^ v := ⟨_, rfl⟩
      have h2 : p < 4294967296 := by rw [hp]; exact Nat.pow_lt_pow_right (by decide) hv32
      have h3 : (2 : Int) ^ v = (p : Int) := by rw [hp]; simp
      have h4 : (s : Int) + (p : Int) < 4294967296 := by rw [← hp] at hlt; have h5 : s + p < 4294967296 := hlt; omega
      have HBT : Hid (((s : Int) + (2 : Int) ^ v % 4294967296) % 4294967296 = ((s + 2 ^ v : Nat) : Int)) := by
        show _ = _
        rw [h3, ← hp, Int.emod_eq_of_lt (Int.natCast_nonneg _) (by omega)]
        show ((s : Int) + (p : Int)) % 4294967296 = _
        rw [Int.emod_eq_of_lt (by omega) h4]
        omega
      clear hlt h2 h3 h4 hp
      go_wp2_with fail
      go_roundw
      case rel => exact ⟨k + 1, hkl, by go_num, by rw [HST.out, HBT.out], trivial⟩
      case measure => simp [intOf]; omega
    · obtain rfl : k = vs.length := by omega
      have r1 : ¬ (vs.length : Int) < (vs.length : Int) := by omega
      have HSE := Lib.hid (sum_set vs HPW.out).2
      rw [List.take_length]
      go_wp2_with fail
      exact bodyPost_ret (v := .int .u32 (sumN vs : Nat)) (by simp [results, Tryz.results20, go_sem]) rfl ⟨by rw [HSE.out], HX0.out⟩
end
section
open Go.RowKit Go.Sort Go.ChangeMaps Go.WideShapes

def heldR (v : Value) : Option (DataW Value × List MemPlace) := some (.held v, [])
def litS (s : ByteArray) : Lit := .string s.data.toList
theorem keyedS : Maps.Keyed Tryz.prog 9 := Maps.string_keyed Tryz.underlying9
theorem keyS {s : ByteArray} (h : s.size ≤ maxLen) : keyOf Tryz.prog 9 (.string s) = some (litS s) := Go.WideMaps.keyOf_string_mk Tryz.underlying9 h
theorem isKeyS (s : ByteArray) : WideAt.IsKeyLit (litS s) := ⟨⟩
section
variable {k t e : TypeId} {w w' : World} {b n : Nat} {D : DataW Value} {key z : Value} {kl : Lit}
theorem map_up (h : w.ownsMap Tryz.prog k heldR b n D) (hb : Below w.heap.size w w') : w'.ownsMap Tryz.prog k heldR b n D := by
  have hl := h.lt
  obtain ⟨es, clock, h1, h2⟩ := h
  exact ⟨es, clock, (hb.block b hl).trans h1, h2⟩
theorem look_yes (K : Maps.Keyed Tryz.prog k) (ht : Tryz.prog.underlying t = some (.map k e)) (hz : ∀ u, (zeroValue e).run Tryz.prog u = .ok z u) (h : w.ownsMap Tryz.prog k heldR b n D) (hkey : keyOf Tryz.prog k key = some kl) {val : Value} (hv : ∀ zd, D.atKey kl zd = .held val) :
    (Instr.lookup t (.map (some b)) key true).run Tryz.prog w = .ok (.tuple #[val, .bool true]) w ∧ (Instr.lookup t (.map (some b)) key false).run Tryz.prog w = .ok val w := by
  obtain ⟨v, ps, h1, h2⟩ := h.look_ok K ht (hz w) (zd := .held z) (zp := []) rfl hkey
  obtain ⟨v', ps', h3, h4⟩ := h.lookup K ht (hz w) (zd := .held z) (zp := []) rfl hkey
  unfold heldR at h2 h4
  rw [hv] at h2 h4
  injection h2 with h2
  injection h4 with h4
  injection h2 with h2
  injection h4 with h4
  injection h2 with h2
  injection h4 with h4
  subst h2 h4
  rw [Maps.has_true_of_atKey hv] at h1
  exact ⟨h1, h3⟩
theorem look_no (K : Maps.Keyed Tryz.prog k) (ht : Tryz.prog.underlying t = some (.map k e)) (hz : ∀ u, (zeroValue e).run Tryz.prog u = .ok z u) (h : w.ownsMap Tryz.prog k heldR b n D) (hkey : keyOf Tryz.prog k key = some kl) (hn : Maps.has D kl = false) :
    (Instr.lookup t (.map (some b)) key true).run Tryz.prog w = .ok (.tuple #[z, .bool false]) w ∧ (Instr.lookup t (.map (some b)) key false).run Tryz.prog w = .ok z w := by
  obtain ⟨v, ps, h1, h2⟩ := h.look_ok K ht (hz w) (zd := .held z) (zp := []) rfl hkey
  obtain ⟨v', ps', h3, h4⟩ := h.lookup K ht (hz w) (zd := .held z) (zp := []) rfl hkey
  unfold heldR at h2 h4
  rw [Maps.atKey_of_not_has hn] at h2 h4
  injection h2 with h2
  injection h4 with h4
  injection h2 with h2
  injection h4 with h4
  injection h2 with h2
  injection h4 with h4
  subst h2 h4
  rw [hn] at h1
  exact ⟨h1, h3⟩
end
end
section
open Go.RowKit Go.Sort Go.ChangeMaps Go.WideShapes

def bs (s : List UInt8) : ByteArray := ⟨s.toArray⟩
theorem litS_bs (s : List UInt8) : litS (bs s) = .string s := by unfold litS bs; simp
theorem litS_bs_inj {s t : List UInt8} (h : litS (bs s) = litS (bs t)) : s = t := by rw [litS_bs, litS_bs] at h; injection h
def gF (kf : RL.R → List UInt8) (Y : List RL.R) (s : List UInt8) : List RL.R := Y.filter fun x => decide (kf x = s)
theorem gF_snoc_eq {kf : RL.R → List UInt8} {Y : List RL.R} {x : RL.R} {s : List UInt8} (h : kf x = s) : gF kf (Y ++ [x]) s = gF kf Y s ++ [x] := by
  unfold gF; rw [List.filter_append, List.filter_cons_of_pos (by simpa using h)]; rfl
theorem gF_snoc_ne {kf : RL.R → List UInt8} {Y : List RL.R} {x : RL.R} {s : List UInt8} (h : kf x ≠ s) : gF kf (Y ++ [x]) s = gF kf Y s := by
  unfold gF; rw [List.filter_append, List.filter_cons_of_neg (by simpa using h)]; simp
theorem gF_len (kf : RL.R → List UInt8) (Y : List RL.R) (s : List UInt8) : (gF kf Y s).length ≤ Y.length := List.length_filter_le _ _
theorem mem_gF {kf : RL.R → List UInt8} {Y : List RL.R} {s : List UInt8} {x : RL.R} : x ∈ gF kf Y s ↔ x ∈ Y ∧ kf x = s := by unfold gF; simp
theorem gF_nil {kf : RL.R → List UInt8} {Y : List RL.R} {s : List UInt8} (h : ∀ x ∈ Y, kf x ≠ s) : gF kf Y s = [] := by
  unfold gF; exact List.filter_eq_nil_iff.2 fun x hx => by simpa using h x hx
theorem keyB {s : List UInt8} (h : s.length ≤ maxLen) : keyOf Tryz.prog 9 (.string (bs s)) = some (litS (bs s)) := keyS (by unfold bs; exact h)

structure GrpM (kf : RL.R → List UInt8) (B b : Nat) (w : World) (Y : List RL.R) (n : Nat) (D : DataW Value) (f : List (Value × Nat × List Value)) (ks : List (List UInt8)) : Prop where
  own : w.ownsMap Tryz.prog 9 heldR b n D
  cnt : n = Y.length
  lt : b < B
  le : B ≤ w.heap.size
  fam : FamOwn B 69 w f
  len : f.length = ks.length
  nd : ks.Nodup
  mem : ∀ s, s ∈ ks ↔ ∃ x ∈ Y, kf x = s
  has : ∀ s, Maps.has D (litS (bs s)) = decide (s ∈ ks)
  at_ : ∀ (i : Nat) s, ks[i]? = some s → ∃ t, f[i]? = some t ∧ (∀ zd, D.atKey (litS (bs s)) zd = .held t.1) ∧ t.2.1 = (gF kf Y s).length ∧ Hdrs (fun c => c ≠ b) B w t.2.2 (gF kf Y s)

theorem rowsInfo36 : (Tryz.prog.info? 32).map (fun i => (i.zero, i.size, i.bytes)) = some (some (.slice none 0 0), 1, 24) := by kernel_rfl
theorem zeroRows : ∀ u, (zeroValue 32).run Tryz.prog u = .ok (.slice none 0 0) u := fun u => by
  obtain ⟨i0, hi0, hz0, -, -⟩ := info_parts rowsInfo36
  simp [zeroValue, typeInfo, hi0, hz0]

section
variable {kf : RL.R → List UInt8} {B b : Nat} {w w' : World} {Y : List RL.R} {n : Nat} {D : DataW Value} {f : List (Value × Nat × List Value)} {ks : List (List UInt8)}
theorem GrpM.keep (h : GrpM kf B b w Y n D f ks) (hb : Below w.heap.size w w') : GrpM kf B b w' Y n D f ks where
  own := map_up h.own hb
  cnt := h.cnt
  lt := h.lt
  le := Nat.le_trans h.le hb.size
  fam := h.fam.keep hb
  len := h.len
  nd := h.nd
  mem := h.mem
  has := h.has
  at_ := fun i s hi => by
    obtain ⟨t, h1, h2, h3, h4⟩ := h.at_ i s hi
    have := h.le
    exact ⟨t, h1, h2, h3, h4.keep fun p hp _ => hb.cell (by omega)⟩
theorem GrpM.nil (ho : w.ownsMap Tryz.prog 9 heldR b 0 (.map [])) (hlt : b < B) (hle : B ≤ w.heap.size) : GrpM kf B b w [] 0 (.map []) [] [] :=
  ⟨ho, rfl, hlt, hle, FamOwn.nil, rfl, List.nodup_nil, fun s => by simp, fun s => by simp [Maps.has], fun i s hi => by simp at hi⟩

theorem Hdrs.two {v : Value} {hs : List Value} {Z : List RL.R} {w1 w2 : World} (hle : B ≤ w.heap.size) (hv : ∀ k, v.ownBlock = some k → B ≤ k) (g1 : w.grownBy w1 v.ownBlock) (g2 : w1.grownBy w2 (some b)) (hd : Hdrs (fun c => c ≠ b) B w hs Z) : Hdrs (fun c => c ≠ b) B w2 hs Z := hd.keep fun p hp hne => by
  rw [grown_cell g2 (p := p) (Nat.lt_of_lt_of_le (by omega) g1.size) (fun e => hne (by injection e)), grown_cell g1 (p := p) (by omega) (fun e => by have := hv _ e.symm; omega)]
theorem FamOwn.past {w1 w2 : World} {l : List (Value × Nat × List Value)} (hlt : b < B) (hf : FamOwn B 69 w1 l) (g : w1.grownBy w2 (some b)) : FamOwn B 69 w2 l :=
  ⟨fun t ht => own_grown (hf.own t ht) g fun k hk e => by have := own_base (hf.own t ht) hk; injection e with e; omega, hf.sep⟩
theorem GrpM.vals (h : GrpM kf B b w Y n D f ks) {i : Nat} {t : Value × Nat × List Value} (h1 : f[i]? = some t) : ∀ k, t.1.ownBlock = some k → B ≤ k := fun _ hk => own_base (h.fam.own _ (List.mem_of_getElem? h1)) hk

theorem GrpM.get (h : GrpM kf B b w Y n D f ks) (s : List UInt8) (hsl : s.length ≤ maxLen) :
    ∃ v hs, (∀ w', GrpM kf B b w' Y n D f ks → (Instr.lookup 107 (.map (some b)) (.string (bs s)) false).run Tryz.prog w' = .ok v w') ∧
      (∀ w', GrpM kf B b w' Y n D f ks → w'.ownsRow B 69 1 v (gF kf Y s).length hs ∧ Hdrs (fun c => c ≠ b) B w' hs (gF kf Y s)) ∧
      ∀ (w' w1 w2 : World) (v' : Value) (u : Value) (x : RL.R), GrpM kf B b w' Y n D f ks → kf x = s → w1.ownsRow B 69 1 v' ((gF kf Y s).length + 1) (hs ++ [u]) → w'.grownBy w1 v.ownBlock → (v'.ownBlock = v.ownBlock ∨ v'.ownBlock = some w'.heap.size) →
        HR (fun c => c ≠ b) B w' u x → w2.ownsMap Tryz.prog 9 heldR b (n + 1) (D.put (litS (bs s)) (.held v')) → w1.grownBy w2 (some b) → ∃ f' ks', GrpM kf B b w2 (Y ++ [x]) (n + 1) (D.put (litS (bs s)) (.held v')) f' ks' := by
  have hD := h.own.isMap
  by_cases hm : s ∈ ks
  · obtain ⟨i, hi⟩ := List.mem_iff_getElem?.1 hm
    obtain ⟨t, h1, h2, h3, h4⟩ := h.at_ i s hi
    obtain ⟨v, m, hs⟩ := t
    obtain rfl : m = (gF kf Y s).length := h3
    refine ⟨v, hs, fun w' hg => (look_yes keyedS Tryz.underlying107 zeroRows hg.own (keyB hsl) h2).2, fun w' hg => ?_, fun w' w1 w2 v' u x hg hk hown g1 hat hu hmap g2 => ?_⟩
    · obtain ⟨t', q1, q2, q3, q4⟩ := hg.at_ i s hi
      rw [h1] at q1
      injection q1 with q1
      subst q1
      exact ⟨hg.fam.own _ (List.mem_of_getElem? h1), q4⟩
    · obtain ⟨hif, hfi⟩ := List.getElem?_eq_some_iff.1 h1
      have hfe : f = f.take i ++ (v, (gF kf Y s).length, hs) :: f.drop (i + 1) := by
        rw [← hfi, List.getElem_cons_drop, List.take_append_drop]
      have hvb := hg.vals h1
      have hfam1 : FamOwn B 69 w1 (f.take i ++ (v', (gF kf Y s).length + 1, hs ++ [u]) :: f.drop (i + 1)) := by
        have hf2 := hg.fam
        rw [hfe] at hf2
        refine hf2.grow hown g1 fun c hc => ?_
        rcases hat with h5 | h5
        · exact .inl (h5 ▸ hc)
        · rw [h5] at hc; injection hc with hc; exact .inr hc.symm
      refine ⟨f.take i ++ (v', (gF kf Y s).length + 1, hs ++ [u]) :: f.drop (i + 1), ks, ⟨hmap, by rw [List.length_append, h.cnt]; rfl, h.lt, Nat.le_trans hg.le (Nat.le_trans g1.size g2.size), hfam1.past h.lt g2, ?_, h.nd, fun s' => ?_, fun s' => ?_, fun j s' hj => ?_⟩⟩
      · rw [List.length_append, List.length_cons, List.length_take, List.length_drop, Nat.min_eq_left (by omega), ← h.len]
        omega
      · rw [h.mem]
        constructor
        · rintro ⟨y, hy, e⟩; exact ⟨y, List.mem_append_left _ hy, e⟩
        · rintro ⟨y, hy, e⟩
          rcases List.mem_append.1 hy with hy | hy
          · exact ⟨y, hy, e⟩
          · obtain rfl := List.mem_singleton.1 hy
            exact (h.mem s').1 (by rw [← e, hk]; exact hm)
      · by_cases e : s' = s
        · subst e
          rw [Maps.has_put_same hD (isKeyS _), decide_eq_true hm]
        · rw [Maps.has_put_other (fun e2 => e (litS_bs_inj e2)), h.has]
      · have hjl := (List.getElem?_eq_some_iff.1 hj).1
        have hlen := h.len
        by_cases hij : j = i
        · subst hij
          rw [hi] at hj
          injection hj with hj
          subst hj
          refine ⟨_, by rw [List.getElem?_append_right (by rw [List.length_take]; omega), List.length_take, Nat.min_eq_left (by omega), Nat.sub_self]; rfl, fun zd => Maps.atKey_put_same hD (isKeyS _) _ zd, ?_, ?_⟩
          · rw [gF_snoc_eq hk, List.length_append]; rfl
          · rw [gF_snoc_eq hk]
            obtain ⟨t', q1, -, -, q4⟩ := hg.at_ j s hi
            rw [h1] at q1
            injection q1 with q1
            subst q1
            exact ((q4.append (Hdrs.one hu)).two hg.le hvb g1 g2)
        · have hne : s' ≠ s := fun e => by
            subst e
            rw [← hi] at hj
            exact hij ((List.getElem?_inj hjl h.nd).1 hj)
          obtain ⟨t', q1, q2, q3, q4⟩ := hg.at_ j s' hj
          refine ⟨t', ?_, fun zd => by rw [Maps.atKey_put_other (fun e2 => hne (litS_bs_inj e2))]; exact q2 zd, by rw [gF_snoc_ne (by rw [hk]; exact fun e => hne e.symm)]; exact q3, by rw [gF_snoc_ne (by rw [hk]; exact fun e => hne e.symm)]; exact q4.two hg.le hvb g1 g2⟩
          rw [← q1]
          conv => rhs; rw [hfe]
          rcases Nat.lt_or_ge j i with hlt | hge
          · rw [List.getElem?_append_left (by rw [List.length_take]; omega), List.getElem?_append_left (by rw [List.length_take]; omega)]
          · rw [List.getElem?_append_right (by rw [List.length_take]; omega), List.getElem?_append_right (by rw [List.length_take]; omega), List.length_take, Nat.min_eq_left (by omega)]
            obtain ⟨d, hd⟩ : ∃ d, j - i = d + 1 := ⟨j - i - 1, by omega⟩
            rw [hd]
            rfl
  · have hg0 : gF kf Y s = [] := gF_nil fun x hx e => hm ((h.mem s).2 ⟨x, hx, e⟩)
    have hno : Maps.has D (litS (bs s)) = false := by rw [h.has, decide_eq_false hm]
    rw [hg0]
    refine ⟨.slice none 0 0, [], fun w' hg => (look_no keyedS Tryz.underlying107 zeroRows hg.own (keyB hsl) hno).2, fun w' hg => ⟨own_nil _ _ _ _, Hdrs.nil⟩, fun w' w1 w2 v' u x hg hk hown g1 hat hu hmap g2 => ?_⟩
    have hvb : ∀ k, (Value.slice none 0 0).ownBlock = some k → B ≤ k := fun k hk => by cases hk
    have hfam1 : FamOwn B 69 w1 (f ++ [(v', 0 + 1, [] ++ [u])]) := hg.fam.add hown g1 fun c hc => by
      rcases hat with h5 | h5
      · rw [h5] at hc; cases hc
      · rw [h5] at hc; injection hc with hc; exact hc.symm
    have hlen := h.len
    refine ⟨f ++ [(v', 0 + 1, [] ++ [u])], ks ++ [s], ⟨hmap, by rw [List.length_append, h.cnt]; rfl, h.lt, Nat.le_trans hg.le (Nat.le_trans g1.size g2.size), hfam1.past h.lt g2, by simp [hlen], ?_, fun s' => ?_, fun s' => ?_, fun j s' hj => ?_⟩⟩
    · exact List.nodup_append.2 ⟨h.nd, by simp, fun a ha c hc e => hm (by rw [← List.mem_singleton.1 hc, ← e]; exact ha)⟩
    · rw [List.mem_append, h.mem, List.mem_singleton]
      constructor
      · rintro (⟨y, hy, e⟩ | rfl)
        · exact ⟨y, List.mem_append_left _ hy, e⟩
        · exact ⟨x, by simp, hk⟩
      · rintro ⟨y, hy, e⟩
        rcases List.mem_append.1 hy with hy | hy
        · exact .inl ⟨y, hy, e⟩
        · rw [List.mem_singleton.1 hy, hk] at e
          exact .inr e.symm
    · by_cases e : s' = s
      · subst e
        rw [Maps.has_put_same hD (isKeyS _), decide_eq_true (by simp)]
      · rw [Maps.has_put_other (fun e2 => e (litS_bs_inj e2)), h.has]
        exact decide_eq_decide.2 (by simp [e])
    · rcases Nat.lt_or_ge j ks.length with hlt | hge
      · rw [List.getElem?_append_left hlt] at hj
        have hne : s' ≠ s := fun e => hm (by rw [← e]; exact List.mem_of_getElem? hj)
        obtain ⟨t', q1, q2, q3, q4⟩ := hg.at_ j s' hj
        exact ⟨t', by rw [List.getElem?_append_left (by omega)]; exact q1, fun zd => by rw [Maps.atKey_put_other (fun e2 => hne (litS_bs_inj e2))]; exact q2 zd, by rw [gF_snoc_ne (by rw [hk]; exact fun e => hne e.symm)]; exact q3, by rw [gF_snoc_ne (by rw [hk]; exact fun e => hne e.symm)]; exact q4.two hg.le hvb g1 g2⟩
      · rw [List.getElem?_append_right hge] at hj
        have hj0 : j = ks.length ∧ s' = s := by
          cases hd : j - ks.length with
          | zero => rw [hd] at hj; simp at hj; exact ⟨by omega, hj.symm⟩
          | succ d => rw [hd] at hj; simp at hj
        obtain ⟨rfl, rfl⟩ := hj0
        refine ⟨_, by rw [List.getElem?_append_right (by omega), hlen, Nat.sub_self]; rfl, fun zd => Maps.atKey_put_same hD (isKeyS _) _ zd, ?_, ?_⟩
        · rw [gF_snoc_eq hk, hg0]; rfl
        · rw [gF_snoc_eq hk, hg0]
          exact ((Hdrs.nil.append (Hdrs.one hu)).two hg.le hvb g1 g2)
theorem GrpM.look (h : GrpM kf B b w Y n D f ks) (s : List UInt8) (hsl : s.length ≤ maxLen) : ∃ A C, (Instr.lookup 107 (.map (some b)) (.string (bs s)) false).run Tryz.prog w = .ok (.slice A (gF kf Y s).length C) w ∧ (gF kf Y s).length ≤ C ∧ C ≤ 9223372036854775807 ∧ SlRs w.heap.size w A (gF kf Y s) := by
  obtain ⟨v, hs, h1, h2, -⟩ := h.get s hsl
  obtain ⟨h3, h4⟩ := h2 w h
  obtain ⟨A, C, rfl, c1, c2, c3⟩ := own_slrs (P := fun c => c ≠ b) h3 h4 h.le fun c hc => by have := h.lt; omega
  exact ⟨A, C, h1 w h, c1, c2, c3.sl⟩
end
end
section
open Go.RowKit Go.Sort Go.ChangeMaps Go.WideShapes

def But (b : Nat) (w w' : World) : Prop := w.heap.size ≤ w'.heap.size ∧ ∀ k, k < w.heap.size → k ≠ b → w'.heap[k]? = w.heap[k]?
theorem But.refl (b : Nat) (w : World) : But b w w := ⟨Nat.le_refl _, fun _ _ _ => rfl⟩
theorem But.below {b : Nat} {w w1 w2 : World} (h : But b w w1) (hb : Below w1.heap.size w1 w2) : But b w w2 := ⟨Nat.le_trans h.1 hb.size, fun k hk hn => (hb.block k (Nat.lt_of_lt_of_le hk h.1)).trans (h.2 k hk hn)⟩
theorem But.grown {b : Nat} {w w1 w2 : World} {row : Option Nat} (h : But b w w1) (hg : w1.grownBy w2 row) (hr : ∀ k, row = some k → k = b ∨ w.heap.size ≤ k) : But b w w2 := ⟨Nat.le_trans h.1 hg.size, fun k hk hn => (hg.block k (Nat.lt_of_lt_of_le hk h.1) (fun e => by rcases hr k e.symm with h1 | h1 <;> omega)).trans (h.2 k hk hn)⟩
theorem But.cell {b : Nat} {w w' : World} (h : But b w w') {p : Addr} (hp : p.block < w.heap.size) (hn : p.block ≠ b) : w'.cell? p = w.cell? p := World.cell?_of_block (h.2 p.block hp hn)

theorem map_grown {k : TypeId} {b n : Nat} {D : DataW Value} {w w' : World} {row : Option Nat} (h : w.ownsMap Tryz.prog k heldR b n D) (hg : w.grownBy w' row) (hne : row ≠ some b) : w'.ownsMap Tryz.prog k heldR b n D := by
  have hl := h.lt
  obtain ⟨es, clock, h1, h2⟩ := h
  exact ⟨es, clock, (hg.block b hl (fun e => hne e.symm)).trans h1, h2⟩
theorem kyB_length (x : RL.R) : (kyB x).length = x.length * 6 := by
  induction x with
  | nil => rfl
  | cons v t ih => unfold kyB at ih ⊢; rw [List.flatMap_cons, List.length_append, ih, List.length_cons]; simp only [List.length_cons, List.length_nil]; omega

def ByPost (kf : RL.R → List UInt8) (P : List RL.R) (w : World) (e : Ending) (w' : World) : Prop := ∃ B b n D f ks, e = .returned (.map (some b)) ∧ GrpM kf B b w' P n D f ks ∧ Below w.heap.size w w'

set_option maxHeartbeats 8000000 in
theorem sjByKey_any (VA PA CA : Option Addr) (VC PC CC vl : Nat) (ar : Int) (P : List RL.R) (cs : List Int) (w : World) (hP : SlRs w.heap.size w PA P) (hc : SlI .i64 w.heap.size w CA cs) (hPo : RsOk P) (hPl : P.length ≤ 60000) (hcl : cs.length ≤ 1000) (hv : ∀ x ∈ P, x.length ≤ 1000 ∧ (∀ c ∈ cs, 0 ≤ c ∧ c < x.length) ∧ ∀ v ∈ x, SmallV v) :
    Calls Tryz.prog 52 #[.agg #[.slice VA vl VC, .int .i64 ar, .slice PA P.length PC], .slice CA cs.length CC] w (ByPost (fun x => kyB (projF x cs)) P w) := by
  obtain ⟨kf, hkf⟩ : ∃ kf : RL.R → List UInt8, kf = fun x => kyB (projF x cs) := ⟨_, rfl⟩
  rw [← hkf]
  have hmm : ∀ u, (Instr.makeMap 107 none).run Tryz.prog u = .ok (.map (some u.heap.size)) (u.alloc (.map #[] 0)) := fun u => by
    simp [Instr.makeMap, go_sem]
  obtain ⟨W0, hW0⟩ : ∃ W0, W0 = (w.alloc (.cells #[.slice VA vl VC, .int .i64 ar, .slice PA P.length PC] 36)).alloc (.map #[] 0) := ⟨_, rfl⟩
  have hx0 : Ext w W0 := by rw [hW0]; exact ((Ext.refl w).alloc _).alloc _
  have hr0 : Row W0 w.heap.size 36 [.slice VA vl VC, .int .i64 ar, .slice PA P.length PC] := by rw [hW0]; exact (Row.new w 36 _).alloc _
  have ho0 : W0.ownsMap Tryz.prog 9 heldR (w.heap.size + 1) 0 (.map []) := by
    have h := World.ownsMap_made (w.alloc (.cells #[.slice VA vl VC, .int .i64 ar, .slice PA P.length PC] 36)) Tryz.prog 9 heldR
    rw [World.size_alloc] at h
    rw [hW0]; exact h
  have hz0 : w.heap.size + 1 + 1 = W0.heap.size := by rw [hW0]; simp
  have HRW := Lib.hid (rlRows_any ar PA PC P W0 (hP.up hx0) hPo (by omega))
  have HC := Lib.hid (fun W (hb : Below w.heap.size w W) => (Sl.below hc hb (Nat.le_refl _)).more hb.size)
  have HV := Lib.hid hv
  have HX0 := Lib.hid hx0
  have HO0 := Lib.hid ho0
  have HZ0 := Lib.hid hz0
  have HCL := Lib.hid hcl
  have HKF := Lib.hid hkf
  have c0 : W0.cell? ⟨w.heap.size, 1, none⟩ = some (.int .i64 ar) := hr0.cell 1
  have c1 : W0.cell? ⟨w.heap.size, 2, none⟩ = some (.slice PA P.length PC) := hr0.cell 2
  have c2 := hr0.lt
  clear hx0 hr0 ho0 hz0 hP hc hPo hv hkf hcl
  go_enter Tryz.func52, Tryz.ntmps52
  go_upto_region 2 with (fail)
  rw [← hW0]
  clear hW0 hmm
  go_wp2_with fail
  refine HRW.out.mono ?_
  rintro e W2 ⟨g, rfl, hmade, hb2⟩
  obtain ⟨B, hBe⟩ : ∃ B, B = W2.heap.size := ⟨_, rfl⟩
  have HBE := Lib.hid hBe
  have HM := Lib.hid hmade
  have HB2 := Lib.hid hb2
  have hgm0 : GrpM kf B (w.heap.size + 1) W2 [] 0 (.map []) [] [] := GrpM.nil (map_up HO0.out hb2) (by have := hb2.size; have := HZ0.out; omega) (by omega)
  have HG0 := Lib.hid hgm0
  have HBW := Lib.hid (Below.then HX0.out.below hb2 HX0.out.size)
  clear hmade hb2 hgm0 hBe c0 c1 HRW HO0
  go_wp2_with fail
  go_loopw [14] (fun c wx => ∃ (k : Nat) (n : Nat) (D : DataW Value) (f : List (Value × Nat × List Value)) (ks : List (List UInt8)), k ≤ P.length ∧ c = .int .i64 k ∧ GrpM kf B (w.heap.size + 1) wx (P.take k) n D f ks ∧ But (w.heap.size + 1) W2 wx ∧ Below w.heap.size w wx) (fun c _ => P.length - (intOf c).toNat)
  case atStart => exact ⟨0, 0, _, _, _, Nat.zero_le _, rfl, HG0.out, But.refl _ _, HBW.out⟩
  case round =>
    obtain ⟨k, n, D, f, ks, hk, rfl, hgm, hbut, hbw⟩ := hrel
    have HGM := Lib.hid hgm
    have HBU := Lib.hid hbut
    have HB := Lib.hid hbw
    clear hgm hbut hbw
    by_cases hkl : k < P.length
    rotate_left
    · obtain rfl : k = P.length := by omega
      have r1 : ¬ (P.length : Int) < (P.length : Int) := by omega
      rw [List.take_length] at HGM
      go_wp2_with fail
      go_ret
      exact ⟨B, _, n, D, f, ks, rfl, HGM.out, HB.out⟩
    have r0 : (0 : Int) ≤ (k : Int) := by omega
    have r1 : (k : Int) < (P.length : Int) := by omega
    have r3 : IntKind.i64.wrap ((k : Int) + 1) = ((k + 1 : Nat) : Int) := by rw [IntWalk.i64_in _ (by omega)]; omega
    have hbz : B ≤ wr.heap.size := HGM.out.le
    obtain ⟨hs, hrow, hhl, hBg, hat⟩ := HM.out
    obtain ⟨A1, C1, q1, q2, q3, q4, q5⟩ := hat k hkl hkl
    have hgB : g < B := by rw [HBE.out]; exact hrow.lt
    have hgb : w.heap.size + 1 < g := by have := HZ0.out; omega
    have d0 : wr.cell? ⟨g, k, none⟩ = some (.slice A1 P[k].length C1) := by
      rw [HBU.out.cell (p := ⟨g, k, none⟩) hrow.lt (by show g ≠ _; omega), hrow.cell]; exact q1
    have hux : HR (fun c => c ≠ w.heap.size + 1) B W2 (.slice A1 P[k].length C1) P[k] := ⟨A1, C1, rfl, q2, q3, by rw [HBE.out]; exact q4, fun hy ad e => by have := (q5 hy ad e).2.1; have := HZ0.out; show ad.block ≠ _; omega⟩
    have HUX : Hid (∀ W, But (w.heap.size + 1) W2 W → HR (fun c => c ≠ w.heap.size + 1) B W (.slice A1 P[k].length C1) P[k]) := fun W hb => hux.keep fun p hp hn => hb.cell (by rw [← HBE.out]; exact hp) hn
    have hsl : SlR wr.heap.size wr A1 P[k] := by
      obtain ⟨A', C', e1, -, -, s1, -⟩ := HUX.out wr HBU.out
      injection e1 with e1
      subst e1
      exact s1.more hbz
    have hvk := HV.out _ (List.getElem_mem hkl)
    have HTK : Hid (P.take (k + 1) = P.take k ++ [P[k]]) := List.take_succ_eq_append_getElem hkl
    have HKY := Lib.hid (sjKey_any A1 CA C1 CC P[k] cs wr hsl (HC.out wr HB.out) hvk.1 HCL.out hvk.2.1 hvk.2.2)
    have HKL : Hid ((kyB (projF P[k] cs)).length ≤ maxLen ∧ kf P[k] = kyB (projF P[k] cs)) := ⟨by rw [kyB_length, projF_length]; have := HCL.out; simp only [maxLen]; omega, by rw [HKF.out]⟩
    clear hrow hhl hBg hat q1 q2 q3 q4 q5 hux hsl hvk
    generalize P[k] = x at *
    generalize kyB (projF x cs) = s at *
    go_wp2_with fail
    refine HKY.out.mono ?_
    rintro e w1 ⟨rfl, hb1⟩
    have HB1 := Lib.hid (Below.then HB.out hb1 HB.out.size)
    have HBU1 := Lib.hid (HBU.out.below hb1)
    have HG1 := Lib.hid (HGM.out.keep hb1)
    obtain ⟨v, hs, l1, l2, l3⟩ := HG1.out.get s HKL.out.1
    have hlk := l1 w1 HG1.out
    have HL2 := Lib.hid l2
    have HL3 := Lib.hid l3
    have HX1 := Lib.hid ((Ext.refl w1).alloc (.cells #[.slice A1 x.length C1] 69))
    have HG2 := Lib.hid (HG1.out.keep HX1.out.below)
    have hml := gF_len kf (P.take k) s
    rw [List.length_take] at hml
    have HML : Hid ((gF kf (P.take k) s).length ≤ 60000) := by show _ ≤ _; omega
    have HNB : Hid (n < maxLen) := by have := HG1.out.cnt; rw [List.length_take] at this; show _ < _; simp only [maxLen]; omega
    have HUX1 := Lib.hid (HUX.out _ (HBU1.out.below HX1.out.below))
    have HB1a := Lib.hid (Below.then HB1.out HX1.out.below HB1.out.size)
    have HBUa := Lib.hid (HBU1.out.below HX1.out.below)
    clear hb1 HKY HGM d0 l1 l2 l3 hml
    unfold bs at hlk
    generalize (gF kf (P.take k) s).length = ml at *
    go_wp2_with (first
      | (at_builtin
         go_loud (refine appH1 rfl (.tmp 25) (.tmp 27) rfl B v ml hs rfl ((HL2.out _ HG2.out).1) w1.heap.size (.slice A1 x.length C1) rfl (by exact (Row.new w1 69 [.slice A1 x.length C1]).cell 0) rfl (by have := HML.out; omega) (by exact HG2.out.le) ?_)
         intro v' w2 hown hg2 hat
         have hvb : ∀ c, v.ownBlock = some c → B ≤ c := fun c hc => own_base (HL2.out _ HG2.out).1 hc
         have HVB := Lib.hid hvb
         have HO2 := Lib.hid hown
         have HGR := Lib.hid hg2
         have HAT := Lib.hid hat
         have HOM := Lib.hid (map_grown HG2.out.own hg2 (fun e => by have := hvb _ e; have := HG2.out.lt; omega))
         clear hown hg2 hat hvb)
      | (at_mapUpdate
         refine wpList_mapUpdate_own _ rfl _ _ _ 107 rfl 9 32 keyedS Tryz.underlying107 heldR (w.heap.size + 1) n D rfl HOM.out HNB.out _ _ (litS (bs s)) rfl rfl (keyB HKL.out.1) (.held v') [] rfl ?_
         intro w3 hown3 hg3
         have HO3 := Lib.hid hown3
         have HG3 := Lib.hid hg3
         clear hown3 hg3)
      | fail)
    have HNEW := Lib.hid (HL3.out _ w2 w3 v' (.slice A1 x.length C1) x HG2.out HKL.out.2 HO2.out HGR.out HAT.out HUX1.out HO3.out HG3.out)
    have HB3 : Hid (Below w.heap.size w w3) := (HB1a.out.grown HGR.out (by have := HB1a.out.size; exact this) (fun c hc => by have := HVB.out c hc; have := HG2.out.lt; omega)).grown HG3.out (by have := HB1a.out.size; have := HGR.out.size; omega) (fun c hc => by injection hc with hc; omega)
    have HBU3 : Hid (But (w.heap.size + 1) W2 w3) := (HBUa.out.grown HGR.out (fun c hc => .inr (by have := HVB.out c hc; rw [← HBE.out]; exact this))).grown HG3.out (fun c hc => .inl (by injection hc with hc; exact hc.symm))
    go_roundw
    case rel =>
      obtain ⟨f', ks', hn⟩ := HNEW.out
      exact ⟨k + 1, n + 1, _, f', ks', hkl, by go_num, by rw [HTK.out]; exact hn, HBU3.out, HB3.out⟩
    case measure => simp [intOf]; omega
end
section
open Go.RowKit Go.Sort

theorem cntF_le (K : RL.R) (v : RL.V) : cntF K v ≤ K.length := List.countP_le_length
section
variable {K : RL.R} (h : K.Pairwise fun a b => RL.cmpV a b < 0)
include h
end

def updN (p : Nat → Nat) (i v : Nat) : Nat → Nat := fun j => if j = i then v else p j

section
variable {K : Nat → RL.R} {J : List Nat} {C : RL.R} (hK : ∀ i ∈ J, (K i).Pairwise fun a b => RL.cmpV a b < 0) (hC : C.Pairwise fun a b => RL.cmpV a b < 0) (hJ : J ≠ []) (hm : ∀ u, u ∈ C ↔ ∀ i ∈ J, u ∈ K i)
include hK hC hJ hm
end
end
section
open Go.RowKit Go.Sort

def preB (l : List At) (x : RL.R) : Prop := ∀ a ∈ l, preA a x
section
open Classical
noncomputable def refJ (l : List At) (vals : Nat → RL.R) : Nat → RL.R → List RL.R
  | 0, x => if preB l x then [x] else []
  | m + 1, x => if preB l x then (vals x.length).flatMap fun c => refJ l vals m (x ++ [c]) else []
variable {n : Nat} {l : List At} {vals : Nat → RL.R} (hl : ∀ a ∈ l, a.Ok n) (hu : ∀ v, v < n → ∃ a ∈ l, v ∈ a.vs)
  (hv : ∀ v, v < n → (vals v).Pairwise fun a b => RL.cmpV a b < 0) (hm : ∀ x, preB l x → ∀ c, x.length < n → preB l (x ++ [c]) → c ∈ vals x.length)
include hl hu hv hm
theorem refJ_eq : ∀ (m : Nat) (x : RL.R), x.length + m = n → refJ l vals m x = if preB l x then joinN l m x else []
  | 0, x, hx => rfl
  | m + 1, x, hx => by
    show (if preB l x then _ else _) = _
    split
    · rename_i hp
      have e : ((vals x.length).flatMap fun c => refJ l vals m (x ++ [c])) = (vals x.length).flatMap fun c => if preB l (x ++ [c]) then joinN l m (x ++ [c]) else [] :=
        congrArg (fun f => List.flatMap f (vals x.length)) (funext fun c => refJ_eq m (x ++ [c]) (by simp; omega))
      rw [e]
      refine RL.SS.ext ?_ (joinN_ss hl hu (m + 1) x hx hp) fun r => ?_
      · refine List.pairwise_flatMap.2 ⟨fun c _ => ?_, (hv x.length (by omega)).imp_of_mem fun {c e} hc he hlt y hy z hz => ?_⟩
        · split
          · rename_i h; exact joinN_ss hl hu m (x ++ [c]) (by simp; omega) h
          · exact RL.ss_nil
        · split at hy
          · rename_i h1
            split at hz
            · rename_i h2
              obtain ⟨y1, y2, -⟩ := (mem_joinN hl hu m (x ++ [c]) (by simp; omega) h1 y).1 hy
              obtain ⟨z1, z2, -⟩ := (mem_joinN hl hu m (x ++ [e]) (by simp; omega) h2 z).1 hz
              rw [← List.take_append_drop (x ++ [c]).length y, ← List.take_append_drop (x ++ [e]).length z, y2, z2]
              refine RL.lt_ext _ _ _ _ (by simp) ?_
              rw [RL.cmpR_append_left, RL.cmpR_one]
              exact hlt
            · simp at hz
          · simp at hy
      · rw [joinN, List.mem_flatMap, List.mem_flatMap]
        constructor
        · rintro ⟨c, _, hr⟩
          split at hr
          · rename_i h; exact ⟨c, (cand_pre hl hu (by omega) hp c).2 h, hr⟩
          · simp at hr
        · rintro ⟨c, hc, hr⟩
          have h : preB l (x ++ [c]) := (cand_pre hl hu (by omega) hp c).1 hc
          exact ⟨c, hm x hp c (by omega) h, by rw [if_pos h]; exact hr⟩
    · rfl
theorem refJ_all : refJ l vals n [] = joinF n l := by
  rw [refJ_eq hl hu hv hm n [] (by simp)]
  unfold joinF
  split
  · rename_i h
    rw [if_neg]
    intro ha
    obtain ⟨a, h1, h2⟩ := List.any_eq_true.1 ha
    obtain ⟨y, hy, -⟩ := h a h1
    have : a.P = [] := by simpa using h2
    rw [this] at hy
    simp at hy
  · rename_i h
    rw [if_pos]
    refine List.any_eq_true.2 (Classical.not_forall_not.1 fun hne => h fun a ha => preA_nil fun e => hne a ⟨ha, by simpa using e⟩)
end
end
section
open Go.RowKit Go.Sort

structure Chg (F : Nat → Prop) (w w' : World) : Prop where
  os : w'.os = w.os
  tape : w'.tape = w.tape
  output : w'.output = w.output
  size : w.heap.size ≤ w'.heap.size
  block : ∀ k, k < w.heap.size → ¬ F k → w'.heap[k]? = w.heap[k]?

section
variable {F G : Nat → Prop} {w w' a b c : World}
theorem Chg.refl (F : Nat → Prop) (w : World) : Chg F w w := ⟨rfl, rfl, rfl, Nat.le_refl _, fun _ _ _ => rfl⟩
theorem Chg.trans (h : Chg F a b) (k : Chg F b c) : Chg F a c :=
  ⟨k.os.trans h.os, k.tape.trans h.tape, k.output.trans h.output, Nat.le_trans h.size k.size, fun x hx hn => (k.block x (Nat.lt_of_lt_of_le hx h.size) hn).trans (h.block x hx hn)⟩
theorem Chg.then (h : Chg F a b) (k : Chg G b c) (hG : ∀ x, x < a.heap.size → G x → F x) : Chg F a c :=
  ⟨k.os.trans h.os, k.tape.trans h.tape, k.output.trans h.output, Nat.le_trans h.size k.size, fun x hx hn => (k.block x (Nat.lt_of_lt_of_le hx h.size) (fun hg => hn (hG x hx hg))).trans (h.block x hx hn)⟩
theorem Chg.of_below {B : Nat} (h : Below B w w') (hF : ∀ k, B ≤ k → k < w.heap.size → F k) : Chg F w w' := ⟨h.os, h.tape, h.output, h.size, fun k hk hn => h.block k (Nat.lt_of_not_le fun hle => hn (hF k hle hk))⟩
theorem Chg.of_ext (h : Ext w w') : Chg F w w' := Chg.of_below h.below fun k h1 h2 => absurd h1 (by omega)
theorem Chg.set (w : World) (b o : Nat) (u : Value) (hF : F b) : Chg F w (w.setCell ⟨b, o, none⟩ u) := ⟨rfl, rfl, rfl, by simp, fun x _ hn => Below.heap_setCell w ⟨b, o, none⟩ u x (fun e => hn (by rw [e]; exact hF))⟩
theorem Chg.below {B : Nat} (h : Chg F w w') (hB : B ≤ w.heap.size) (hF : ∀ k, F k → B ≤ k) : Below B w w' := ⟨h.os, h.tape, h.output, h.size, fun x hx => h.block x (Nat.lt_of_lt_of_le hx hB) fun hf => absurd (hF x hf) (by omega)⟩
theorem Chg.cell (h : Chg F w w') {p : Addr} (hp : p.block < w.heap.size) (hn : ¬ F p.block) : w'.cell? p = w.cell? p := World.cell?_of_block (h.block p.block hp hn)
end
end
section
open Go.RowKit Go.Sort

instance : Inhabited At := ⟨⟨[], []⟩⟩

structure Its where
  l : List At
  g : Nat → Nat
  LA : Nat → Option Addr
  C : Nat → Nat
  B : Nat → Nat
def Its.a (I : Its) (i : Nat) : At := I.l.getD i default
structure Its.Ok (I : Its) : Prop where
  d : ∀ i, i < I.l.length → (I.a i).d ≤ 32
  P : ∀ i, i < I.l.length → (I.a i).P.length ≤ 100000
  r : ∀ i, i < I.l.length → ∀ r ∈ (I.a i).P, r.length = (I.a i).d
  B : ∀ i, i < I.l.length → I.B i ≤ I.g i
  inj : ∀ i j, i < I.l.length → j < I.l.length → I.g i = I.g j → i = j
def Its.K (I : Its) (q : Nat → RL.R) (i : Nat) : RL.R := RL.kids (I.a i).d (I.a i).P (q i)
end
section
open Go.RowKit Go.Sort

structure RA where
  vs : List Int
  ar : Int
  P : List RL.R
def RA.at (a : RA) : At := ⟨a.vs.map Int.toNat, a.P⟩
def AtsM (B : Nat) (w : World) (A : Option Addr) (X : List RA) : Prop :=
  X ≠ [] → ∃ b o, A = some ⟨b, o, none⟩ ∧ b < B ∧ ∀ i (h : i < X.length), ∃ VA VC PA PC, w.cell? ⟨b, o + i * 3, none⟩ = some (.slice VA X[i].vs.length VC) ∧ w.cell? ⟨b, o + i * 3 + 1, none⟩ = some (.int .i64 X[i].ar) ∧ w.cell? ⟨b, o + i * 3 + 2, none⟩ = some (.slice PA X[i].P.length PC) ∧ X[i].vs.length ≤ VC ∧ VC ≤ 9223372036854775807 ∧ X[i].P.length ≤ PC ∧ PC ≤ 9223372036854775807 ∧ SlI .i64 B w VA X[i].vs ∧ SlRs B w PA X[i].P
section
variable {B : Nat} {w w' : World} {A : Option Addr} {X : List RA}
theorem AtsM.upB (h : AtsM w.heap.size w A X) (hb : Below w.heap.size w w') : AtsM w'.heap.size w' A X := fun hn => by
  obtain ⟨b, o, e, hlt, hc⟩ := h hn
  refine ⟨b, o, e, Nat.lt_of_lt_of_le hlt hb.size, fun i hi => ?_⟩
  obtain ⟨VA, VC, PA, PC, h1, h2, h3, h4, h5, h6, h7, h8, h9⟩ := hc i hi
  exact ⟨VA, VC, PA, PC, (hb.cell (p := ⟨b, o + i * 3, none⟩) hlt).trans h1, (hb.cell (p := ⟨b, o + i * 3 + 1, none⟩) hlt).trans h2, (hb.cell (p := ⟨b, o + i * 3 + 2, none⟩) hlt).trans h3, h4, h5, h6, h7, (h8.below hb (Nat.le_refl _)).more hb.size, h9.upB hb⟩
theorem ats_at (h : AtsM B w A X) {i : Nat} (hi : i < X.length) : ∃ b o VA VC PA PC, A = some ⟨b, o, none⟩ ∧ b < B ∧ w.cell? ⟨b, o + i * 3, none⟩ = some (.slice VA X[i].vs.length VC) ∧ w.cell? ⟨b, o + i * 3 + 1, none⟩ = some (.int .i64 X[i].ar) ∧ w.cell? ⟨b, o + i * 3 + 2, none⟩ = some (.slice PA X[i].P.length PC) ∧ X[i].vs.length ≤ VC ∧ VC ≤ 9223372036854775807 ∧ X[i].P.length ≤ PC ∧ PC ≤ 9223372036854775807 ∧ SlI .i64 B w VA X[i].vs ∧ SlRs B w PA X[i].P := by
  obtain ⟨b, o, e, hlt, hc⟩ := h (by intro h0; subst h0; simp at hi)
  obtain ⟨VA, VC, PA, PC, h⟩ := hc i hi
  exact ⟨b, o, VA, VC, PA, PC, e, hlt, h⟩
end

section
variable {B0 n jb rb ab : Nat} {yv : Value} {I : Its} {lo : Nat → Nat} {w w' : World} {k ka : Nat} {allv : Value} {ix : Nat → List Nat}
def Its.put (I : Its) (k g B : Nat) (LA : Option Addr) (C : Nat) : Its := ⟨I.l, updN I.g k g, fun i => if i = k then LA else I.LA i, updN I.C k C, updN I.B k B⟩
end
end
section
open Go.RowKit Go.Sort

def errAt (n : Int) (a : RA) : Int := if ¬ a.vs.Pairwise (· < ·) then 16 else if ∃ v ∈ a.vs, v < 0 ∨ n ≤ v then 3 else if (a.vs.length : Int) ≠ a.ar then 6 else 0
theorem pairwise_adj : ∀ (l : List Int), (∀ p (h : p + 1 < l.length), l[p] < l[p + 1]) → l.Pairwise (· < ·)
  | [], _ => List.Pairwise.nil
  | [a], _ => List.pairwise_singleton _ _
  | a :: b :: t, h => by
    have h1 := pairwise_adj (b :: t) fun p hp => h (p + 1) (by simp at hp ⊢; omega)
    refine List.pairwise_cons.2 ⟨fun y hy => ?_, h1⟩
    have hab : a < b := h 0 (by simp)
    rcases List.mem_cons.1 hy with rfl | hy
    · exact hab
    · exact Int.lt_trans hab ((List.pairwise_cons.1 h1).1 y hy)
theorem errAt_order {n : Int} {a : RA} {p : Nat} (h : p + 1 < a.vs.length) (hge : a.vs[p + 1] ≤ a.vs[p]) : errAt n a = 16 := by
  unfold errAt
  rw [if_pos]
  intro hp
  have := List.pairwise_iff_getElem.1 hp p (p + 1) (by omega) h (by omega)
  omega
theorem errAt_range {n : Int} {a : RA} (h : a.vs.Pairwise (· < ·)) {v : Int} (hv : v ∈ a.vs) (hb : v < 0 ∨ n ≤ v) : errAt n a = 3 := by
  unfold errAt
  rw [if_neg (by simpa using h), if_pos ⟨v, hv, hb⟩]
theorem errAt_arity {n : Int} {a : RA} (h : a.vs.Pairwise (· < ·)) (hr : ∀ v ∈ a.vs, 0 ≤ v ∧ v < n) : errAt n a = if (a.vs.length : Int) = a.ar then 0 else 6 := by
  unfold errAt
  rw [if_neg (by simpa using h), if_neg (fun ⟨v, hv, hb⟩ => by have := hr v hv; omega)]
  by_cases e : (a.vs.length : Int) = a.ar
  · rw [if_pos e, if_neg (by simpa using e)]
  · rw [if_neg e, if_pos e]
end
end Go.Proofs.YthgaflmldbgbnaaGreatDoor

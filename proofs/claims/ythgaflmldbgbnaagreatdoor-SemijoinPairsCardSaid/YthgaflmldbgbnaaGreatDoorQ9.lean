/- Parts of the proof, merged: G17, G27, E10, G18, G19, W9, G20, G29, G30. -/
import Derived.Test.YthgaflmldbgbnaaGreatDoorQ8
import Derived.Test.YthgaflmldbgbnaaGreatDoorQ5
import Derived.Test.YthgaflmldbgbnaaGreatDoorQ3
import Derived.RangeFuncNested
import Derived.RangeFuncBound
import Derived.RangeFuncCalls
import Derived.RangeFuncLeaves
import Derived.RangeFuncWrites
import Derived.Shelf.Abstract
import Derived.OwnWalkIn
import Derived.TacticsInMore
import Derived.LoopNIn
import Derived.LoopIn
import Derived.Test.YthgaflmldbgbnaaGreatDoorQ7
import Derived.Deep.LoopGhost
import Derived.Test.YthgaflmldbgbnaaGreatDoorQ2
import Derived.Test.YthgaflmldbgbnaaGreatDoorQ1

set_option maxRecDepth 100000
namespace Go.Proofs.YthgaflmldbgbnaaGreatDoor
section
open Go.RowKit Go.Sort Go.ChangeMaps Go.WideShapes

theorem stepU36 {w : World} {ops : Array Oper} {o : Oper} {a : Act} {K : Act → World → Prop} {Q : Exit → Act → World → Prop} {E : Prop} (hgd : o.guard = none) (s x : Operand)
    (ho : o.op = .call { callee := .builtin .append, args := #[s, x], argTypes := #[85, 85] })
    (base : Nat) (v : Value) (l : List Nat) (hs : a.eval s = v) (hown : w.ownsRow base 57 1 v l.length (l.map fun z : Nat => Value.int .u32 (z : Int)))
    (gt : Nat) (z : Nat) (hx : a.eval x = .slice (some ⟨gt, 0, none⟩) 1 1) (hg : Row w gt 57 [.int .u32 (z : Int)])
    (hn : l.length ≤ 100000000) (hbase : base ≤ w.heap.size)
    (h : ∀ g cap w', w'.ownsRow base 57 1 (.slice (some ⟨g, 0, none⟩) (l.length + 1) cap) (l.length + 1) ((l ++ [z]).map fun z : Nat => Value.int .u32 (z : Int)) → w.grownBy w' v.ownBlock → (v.ownBlock = some g ∨ g = w.heap.size) → K (a.put o.dst (.slice (some ⟨g, 0, none⟩) (l.length + 1) cap)) w') :
    if Region.wanted o (yielded ops a.tmps) = true then Oper.wp Tryz.prog o a w K Q else E := by
  obtain ⟨i0, hi0, hz0, hz1, hz2⟩ := info_parts u32Info
  refine step_append_lies w hgd s x 85 ho base 57 i0 _ 1 4 Tryz.underlying85 hi0 hz0 hz1 hz2 rfl (by decide) v l.length _ hs hown ⟨gt, 0, none⟩ 1 1 [.int .u32 (z : Int)] hx rfl ?_ (by simp [Value.oneCell']) (by decide) (by simp only [maxLen]; omega) (by omega) hbase w.heap.size rfl ?_
  · intro j u hu
    have := hg.cell j
    rw [hu] at this
    rw [Addr.add_lit, Nat.zero_add]
    exact this
  · intro g cap w' k1 k2 k3 _
    refine h g cap w' ?_ k2 k3
    rw [List.map_append]
    exact k1

def topV (vs : List Nat) : Nat := if vs = [] then 0 else vs.getLastD 0 + 1
def graphN (al : List At) : Nat := al.foldl (fun n a => max n (topV a.vs)) 0
def graphE (al : List At) : List Nat := al.map fun a => setN a.vs
theorem graphN_snoc (l : List At) (a : At) : graphN (l ++ [a]) = max (graphN l) (topV a.vs) := by unfold graphN; rw [List.foldl_append]; rfl
theorem topV_nil : topV [] = 0 := rfl
theorem topV_last {vs : List Nat} (h : vs ≠ []) : ∃ hl : vs.length - 1 < vs.length, topV vs = vs[vs.length - 1] + 1 := by
  have hp : 0 < vs.length := List.length_pos_iff.2 h
  refine ⟨by omega, ?_⟩
  unfold topV
  rw [if_neg h, List.getLastD_eq_getLast?, List.getLast?_eq_getElem?, List.getElem?_eq_getElem (by omega)]
  rfl
theorem graphN_le {al : List At} (h : ∀ a ∈ al, Gd a) : graphN al ≤ 32 := by
  have hh : ∀ (l : List At) (n : Nat), (∀ a ∈ l, Gd a) → n ≤ 32 → l.foldl (fun n a => max n (topV a.vs)) n ≤ 32 := by
    intro l
    induction l with
    | nil => intro n _ hn; exact hn
    | cons a t ih =>
      intro n hl hn
      rw [List.foldl_cons]
      refine ih _ (fun b hb => hl b (List.mem_cons_of_mem _ hb)) ?_
      have : topV a.vs ≤ 32 := by
        by_cases he : a.vs = []
        · rw [he]; exact Nat.zero_le _
        · obtain ⟨hl', e⟩ := topV_last he
          have := (hl a List.mem_cons_self).lt _ (List.getElem_mem hl')
          omega
      omega
  exact hh al 0 h (Nat.zero_le _)
def errT (X : List RA) (ps : List Int) : Int := if errC X ≠ 0 then errC X else JT.chkF (graphN (X.map RA.at) : Nat) (graphE (X.map RA.at)) ps

set_option maxHeartbeats 16000000 in
theorem sjCheckTree_any (PA AA : Option Addr) (PC AC : Nat) (ps : List Int) (X : List RA) (w : World) (hA : AtsM w.heap.size w AA X) (hXl : X.length ≤ 9223372036854775807) (hX : ∀ a ∈ X, Small a) (hp : SlI .i64 w.heap.size w PA ps) (hpl : ps.length ≤ 1000000) :
    Calls Tryz.prog 38 #[.agg #[.slice PA ps.length PC], .slice AA X.length AC] w fun e w' => e = .returned (.int .i64 (errT X ps)) ∧ Below w.heap.size w w' := by
  obtain ⟨W0, hW0⟩ : ∃ W0, W0 = w.alloc (.cells #[.slice PA ps.length PC] 51) := ⟨_, rfl⟩
  have hx0 : Ext w W0 := by rw [hW0]; exact (Ext.refl w).alloc _
  have hrt : Row W0 w.heap.size 51 [.slice PA ps.length PC] := by rw [hW0]; exact Row.new w 51 _
  have hA0 := hA.upB hx0.below
  have HCK := Lib.hid (sjCheck_any AA AC X W0 hA0 hXl (fun a ha => by have := (hX a ha).vl; omega))
  have HA := Lib.hid (fun W (h : Below w.heap.size w W) => hA.upB h)
  have HPS := Lib.hid (fun W (h : Below w.heap.size w W) => (Sl.below hp h (Nat.le_refl _)).more h.size)
  have HX := Lib.hid hX
  have HX0 := Lib.hid hx0
  have HRT := Lib.hid hrt
  clear hA hX hp hx0 hrt hA0
  go_enter Tryz.func38, Tryz.ntmps38
  go_upto_region 1 with (fail)
  rw [← hW0]
  clear hW0
  go_wp2_with fail
  refine HCK.out.mono ?_
  rintro e w1 ⟨rfl, hb1⟩
  have HB1 := Lib.hid (Below.then HX0.out.below hb1 HX0.out.size)
  have HR1 := Lib.hid (HRT.out.up hb1)
  clear hb1 HCK
  by_cases h0 : errC X = 0
  rotate_left
  · have HE : Hid (errT X ps = errC X) := by show _ = _; unfold errT; rw [if_pos h0]
    have hne : (errC X != 0) = true := by simpa using h0
    clear h0
    generalize errC X = code at *
    go_wp2_with fail
    go_ret
    exact ⟨by rw [HE.out]; rfl, HB1.out⟩
  have HE : Hid (errT X ps = JT.chkF (graphN (X.map RA.at) : Nat) (graphE (X.map RA.at)) ps) := by show _ = _; unfold errT; rw [if_neg (by simpa using h0)]
  have hz := errC_zero h0
  have HGD : Hid (∀ a ∈ X, Gd a.at) := fun a ha => Gd.of (HX.out a ha) (hz.2 a ha)
  have HRV : Hid (∀ a ∈ X, a.at.ra = a) := fun a ha => RA.good (hz.2 a ha)
  have hX32 := hz.1
  rw [h0]
  clear h0 hz
  obtain ⟨W2, hW2⟩ : ∃ W2, W2 = w1.alloc (.cells #[.int .i64 0, .slice none 0 0] 87) := ⟨_, rfl⟩
  obtain ⟨g6, hg6⟩ : ∃ g6, g6 = w1.heap.size := ⟨_, rfl⟩
  have HX2 : Hid (Ext w1 W2) := by show Ext _ _; rw [hW2]; exact (Ext.refl w1).alloc _
  have HR6 : Hid (Row W2 g6 87 [.int .i64 (0 : Nat), .slice none 0 0]) := by show Row _ _ _ _; rw [hW2, hg6]; exact Row.new w1 87 _
  have HZ6 : Hid (w.heap.size < w1.heap.size ∧ w1.heap.size = g6 ∧ g6 + 1 = W2.heap.size) := ⟨HR1.out.lt, hg6.symm, by rw [hW2, hg6]; simp⟩
  have HG6 := Lib.hid hg6
  clear hg6
  go_upto_region 5 with (fail)
  rw [← hW2, ← HG6.out]
  clear hW2 HG6
  go_wp2_with fail
  go_loopw [16] (fun c wx => ∃ (k : Nat) (vo : Value), k ≤ X.length ∧ c = .int .i64 k ∧ Row wx g6 87 [.int .i64 (graphN ((X.take k).map RA.at) : Nat), vo] ∧ wx.ownsRow (g6 + 1) 57 1 vo (graphE ((X.take k).map RA.at)).length ((graphE ((X.take k).map RA.at)).map fun z : Nat => Value.int .u32 (z : Int)) ∧ Below g6 W2 wx) (fun c _ => X.length - (intOf c).toNat)
  case atStart => exact ⟨0, _, Nat.zero_le _, rfl, HR6.out, own_nil _ _ _ _, Below.refl _ _⟩
  case round =>
    obtain ⟨k, vo, hk, rfl, hrow, hown, hbw⟩ := hrel
    have HROW := Lib.hid hrow
    have HO := Lib.hid hown
    have HB := Lib.hid hbw
    have hz9 := HZ6.out
    have hzr : W2.heap.size ≤ wr.heap.size := hbw.size
    have HBW : Hid (Below w1.heap.size w1 wr) := Below.then HX2.out.below (hbw.mono (show w1.heap.size ≤ g6 by omega)) (Nat.le_refl _)
    have HBA : Hid (Below w.heap.size w wr) := Below.then HB1.out HBW.out HB1.out.size
    clear hrow hown hbw HR6
    by_cases hkl : k < X.length
    rotate_left
    · obtain rfl : k = X.length := by omega
      have r1 : ¬ (X.length : Int) < (X.length : Int) := by omega
      rw [List.take_length] at HROW HO
      have hown := HO.out
      have hNl : graphN (X.map RA.at) ≤ 32 := graphN_le fun b hb => by obtain ⟨a, ha, rfl⟩ := List.mem_map.1 hb; exact HGD.out a ha
      have hU : U32s (graphE (X.map RA.at)) := fun z hz => by
        unfold graphE at hz
        obtain ⟨b, hb, rfl⟩ := List.mem_map.1 hz
        obtain ⟨a, ha, rfl⟩ := List.mem_map.1 hb
        have := setN_lt (HGD.out a ha).lt
        omega
      have hEl : (graphE (X.map RA.at)).length ≤ 1000000 := by unfold graphE; rw [List.length_map, List.length_map]; omega
      obtain ⟨QA, QC, e, hqc, -, hqs⟩ := Sl.of_own hown
      rw [List.length_map] at e
      subst e
      have HJC := Lib.hid (jtCheck_any (graphN (X.map RA.at) : Nat) QA PA QC PC (graphE (X.map RA.at)) ps wr hqs hU (HPS.out wr HBA.out) hEl hpl)
      have q0 : wr.cell? ⟨g6, 0, none⟩ = some (.int .i64 (graphN (X.map RA.at) : Nat)) := HROW.out.cell 0
      have q1 : wr.cell? ⟨g6, 1, none⟩ = some (.slice QA (graphE (X.map RA.at)).length QC) := HROW.out.cell 1
      have q3 := HROW.out.lt
      have ht := HR1.out.up HBW.out
      have q4 : wr.cell? ⟨w.heap.size, 0, none⟩ = some (.slice PA ps.length PC) := ht.cell 0
      have q5 := ht.lt
      clear hown hqc hqs hNl hU hEl HROW HO ht
      generalize graphN (X.map RA.at) = N at *
      generalize graphE (X.map RA.at) = E at *
      go_wp2_with fail
      refine HJC.out.mono ?_
      rintro e w3 ⟨rfl, hb3⟩
      have HB3 := Lib.hid (Below.then HBA.out hb3 HBA.out.size)
      clear hb3 HJC
      go_wp2_with fail
      go_ret
      exact ⟨by rw [HE.out]; rfl, HB3.out⟩
    have r0 : (0 : Int) ≤ (k : Int) := by omega
    have r1 : (k : Int) < (X.length : Int) := by omega
    have r3 : IntKind.i64.wrap ((k : Int) + 1) = ((k + 1 : Nat) : Int) := by rw [IntWalk.i64_in _ (by omega)]; omega
    have hXm : X[k] ∈ X := List.getElem_mem hkl
    obtain ⟨ab, ao, VA, VC, QA, QC, rfl, hab, a0, a1, a2, -, -, -, -, av, -⟩ := ats_at (HA.out w1 HB1.out) hkl
    have HTK : Hid ((X.take (k + 1)).map RA.at = (X.take k).map RA.at ++ [X[k].at]) := by show _ = _; rw [List.take_succ_eq_append_getElem hkl, List.map_append]; rfl
    have HGK := Lib.hid (HGD.out _ hXm)
    have hrv := HRV.out _ hXm
    have hvs : X[k].vs = X[k].at.vs.map Int.ofNat := (congrArg RA.vs hrv).symm
    have har : X[k].ar = (X[k].at.vs.length : Nat) := (congrArg RA.ar hrv).symm
    rw [hvs, List.length_map] at a0
    rw [har] at a1
    rw [hvs] at av
    have HVS := Lib.hid av
    clear hvs har hrv hXm av
    generalize X[k].P = rp at *
    generalize X[k].at = a at *
    have a0 := (HBW.out.cell (p := ⟨ab, ao + k * 3, none⟩) hab).trans a0
    have a1 := (HBW.out.cell (p := ⟨ab, ao + k * 3 + 1, none⟩) hab).trans a1
    have a2 := (HBW.out.cell (p := ⟨ab, ao + k * 3 + 2, none⟩) hab).trans a2
    have hab2 : ab < wr.heap.size := Nat.lt_of_lt_of_le hab HBW.out.size
    have hgn : graphN ((X.take k).map RA.at) ≤ 32 := graphN_le fun b hb => by obtain ⟨c, hc, rfl⟩ := List.mem_map.1 hb; exact HGD.out c (List.mem_of_mem_take hc)
    have HGS := Lib.hid (graphN_snoc ((X.take k).map RA.at) a)
    have HGE : Hid (graphE ((X.take k).map RA.at ++ [a]) = graphE ((X.take k).map RA.at) ++ [setN a.vs]) := by show _ = _; unfold graphE; rw [List.map_append]; rfl
    have HLE : Hid ((graphE ((X.take k).map RA.at)).length ≤ 100000000) := by show _ ≤ _; unfold graphE; rw [List.length_map, List.length_map, List.length_take]; omega
    obtain ⟨us, UP⟩ := a
    simp only at HGS HGE HVS a0 a1
    generalize graphN ((X.take k).map RA.at) = N at *
    generalize graphE ((X.take k).map RA.at) = E at *
    have hul : us.length ≤ 32 := HGK.out.vl
    obtain ⟨wo, hwo⟩ : ∃ wo, wo = wr := ⟨_, rfl⟩
    subst hwo
    obtain ⟨W3, hW3⟩ : ∃ W3, W3 = wo.alloc (.cells #[.slice VA us.length VC, .int .i64 (us.length : Nat), .slice QA rp.length QC] 36) := ⟨_, rfl⟩
    obtain ⟨g8, hg8⟩ : ∃ g8, g8 = wo.heap.size := ⟨_, rfl⟩
    have HX3 : Hid (Ext wo W3) := by show Ext _ _; rw [hW3]; exact (Ext.refl wo).alloc _
    have HR8 : Hid (Row W3 g8 36 [.slice VA us.length VC, .int .i64 (us.length : Nat), .slice QA rp.length QC]) := by show Row _ _ _ _; rw [hW3, hg8]; exact Row.new wo 36 _
    have HR63 := Lib.hid (HROW.out.up HX3.out.below)
    have HO3 := Lib.hid (own_keep HO.out HX3.out.below)
    have HB3 : Hid (Below g6 W2 W3) := Below.then HB.out HX3.out.below (by omega)
    have HW3E := Lib.hid hW3
    have HG8E := Lib.hid hg8
    have HVR : Hid (∀ W, Below wo.heap.size wo W → SlI .i64 W.heap.size W VA (us.map Int.ofNat)) := fun W h => (Sl.below ((Sl.below HVS.out HBW.out (Nat.le_refl _)).more HBW.out.size) h (Nat.le_refl _)).more h.size
    have HOLT : Hid (∀ j, vo.ownBlock = some j → j < wo.heap.size) := own_lt HO.out
    clear hW3 hg8 HROW HO HA HGD HRV
    go_upto_region 8 with (fail)
    rw [← HW3E.out, ← HG8E.out]
    have e0 : W3.cell? ⟨g8, 0, none⟩ = some (.slice VA us.length VC) := HR8.out.cell 0
    have e1 : W3.cell? ⟨g8, 1, none⟩ = some (.int .i64 (us.length : Nat)) := HR8.out.cell 1
    have e2 : W3.cell? ⟨g8, 2, none⟩ = some (.slice QA rp.length QC) := HR8.out.cell 2
    have e3 := HR8.out.lt
    have f0 : W3.cell? ⟨g6, 0, none⟩ = some (.int .i64 (N : Nat)) := HR63.out.cell 0
    have f1 : W3.cell? ⟨g6, 1, none⟩ = some vo := HR63.out.cell 1
    have f2 := HR63.out.lt
    have f3 := HR63.out.frozen 0
    have f4 := HR63.out.frozen 1
    have HZ8 : Hid (g6 < g8) := by have := HG8E.out; have := HB.out.size; show _ < _; omega
    clear a0 a1 a2
    by_cases hne : us = []
    · have h0 : ¬ (0 : Int) < (us.length : Int) := by rw [hne]; simp
      have hl0 : us.length = 0 := by rw [hne]; rfl
      have hd : decide ((0 : Int) < (us.length : Int)) = false := decide_eq_false h0
      have hd1 : decide (0 < us.length) = false := decide_eq_false (by omega)
      have HGS2 : Hid (graphN ((X.take k).map RA.at ++ [⟨us, UP⟩]) = N) := by show _ = _; rw [HGS.out, hne, topV_nil, Nat.max_zero]
      have HRN := Lib.hid HR63.out
      have HR8N := Lib.hid HR8.out
      have HXN : Hid (Below wo.heap.size wo W3) := HX3.out.below
      have HON := Lib.hid HO3.out
      have HBN := Lib.hid HB3.out
      have HZN : Hid (g6 + 1 ≤ W3.heap.size ∧ g8 < W3.heap.size) := ⟨by omega, e3⟩
      have HNE8 : Hid (vo.ownBlock ≠ some g8) := fun e => by have := HOLT.out _ e; have := HG8E.out; omega
      clear h0 hl0 hne
      have HR64 : Hid (Row W3 g6 87 [.int .i64 (N : Nat), vo]) := HRN.out
      have HR84 : Hid (Row W3 g8 36 [.slice VA us.length VC, .int .i64 (us.length : Nat), .slice QA rp.length QC]) := HR8N.out
      have HKP : Hid (∀ W, Below W3.heap.size W3 W → (W.cell? ⟨g8, 0, none⟩ = some (.slice VA us.length VC) ∧ W.cell? ⟨g8, 1, none⟩ = some (.int .i64 (us.length : Nat)) ∧ W.cell? ⟨g8, 2, none⟩ = some (.slice QA rp.length QC)) ∧ W.cell? ⟨g6, 1, none⟩ = some vo) := fun W h => ⟨⟨(HR84.out.up h).cell 0, (HR84.out.up h).cell 1, (HR84.out.up h).cell 2⟩, (HR64.out.up h).cell 1⟩
      have HSE := Lib.hid (sjSet_any VA QA VC QC rp.length us.length us W3.drew (HVR.out W3.drew HXN.out.drew) (by omega) HGK.out.lt)
      have HOB : Hid (∀ j, vo.ownBlock = some j → g6 + 1 ≤ j) := fun j hj => own_base HON.out hj
      go_upto_region 10 with (fail)
      refine regionZ (S := (fun w' => (w'.cell? ⟨g8, 0, none⟩ = some (.slice VA us.length VC) ∧ w'.cell? ⟨g8, 1, none⟩ = some (.int .i64 (us.length : Nat)) ∧ w'.cell? ⟨g8, 2, none⟩ = some (.slice QA rp.length QC)) ∧ w'.cell? ⟨g6, 1, none⟩ = some vo)) 7 (by kernel_rfl) (HKP.out W3.drew (Below.refl _ _).drew) (fun hHeld => ?_)
      refine takeZ (i := 0) (v := ?_) (some 37) rfl rfl (by kernel_rfl) (by decide) (by kernel_rfl) (by kernel_rfl) (by kernel_rfl) (by kernel_rfl) (fun _ _ _ h => h) (Or.inl ⟨by rfl, ?_⟩) (by assumption) ?_
      rotate_left 1
      · (intro w0 hSw; (try dsimp only at hSw); go_simp; try (with_reducible rfl))
      try simp only [Act.put, List.setIfInBounds_toArray, List.set_cons_succ, List.set_cons_zero]
      refine takeZ (i := 1) (v := ?_) (some 38) rfl rfl (by kernel_rfl) (by decide) (by kernel_rfl) (by kernel_rfl) (by kernel_rfl) (by kernel_rfl) (fun _ _ _ h => h) (Or.inl ⟨by rfl, ?_⟩) (by assumption) ?_
      rotate_left 1
      · (intro w0 hSw; (try dsimp only at hSw); go_simp; try (with_reducible rfl))
      try simp only [Act.put, List.setIfInBounds_toArray, List.set_cons_succ, List.set_cons_zero]
      refine takeZ (i := 2) (v := ?_) (some 39) rfl rfl (by kernel_rfl) (by decide) (by kernel_rfl) (by kernel_rfl) (by kernel_rfl) (by kernel_rfl) (fun _ _ _ h => h) (Or.inl ⟨by rfl, ?_⟩) (by assumption) ?_
      rotate_left 1
      · (intro w0 hSw; (try dsimp only at hSw); go_simp; try (with_reducible rfl))
      try simp only [Act.put, List.setIfInBounds_toArray, List.set_cons_succ, List.set_cons_zero]
      refine oneZ (i := 3) (by kernel_rfl) rfl (by decide) (fun K hK => ?_)
      go_simp
      refine HSE.out.mono ?_
      rintro e V4 ⟨rfl, hb⟩
      have HV4 : Hid (Below W3.heap.size W3 V4) := Below.undrew hb.below
      clear hb
      go_wp2_with fail
      refine hK.out _ _ (HKP.out V4 HV4.out) (fun hHeld => ?_)
      clear hK K
      try simp only [Act.put, List.setIfInBounds_toArray, List.set_cons_succ, List.set_cons_zero]
      refine oneZ (i := 4) (by kernel_rfl) rfl (by decide) (fun K hK => ?_)
      go_simp
      obtain ⟨V5, hV5⟩ : ∃ V5, V5 = V4.alloc (.cells #[.int .u32 (setN us : Nat)] 57) := ⟨_, rfl⟩
      rw [← hV5]
      have HV5E := Lib.hid hV5
      have HV5 : Hid (Below W3.heap.size W3 V5) := by rw [hV5]; exact Below.then HV4.out ((Ext.refl V4).alloc _).below HV4.out.size
      have KEEP5 := HKP.out V5 HV5.out
      have HR5 : Hid (Row V5 V4.heap.size 57 [.int .u32 (setN us : Nat)]) := by show Row _ _ _ _; rw [hV5]; exact Row.new V4 57 _
      clear hV5
      refine hK.out _ _ KEEP5 (fun hHeld => ?_)
      clear hK K
      try simp only [Act.put, List.setIfInBounds_toArray, List.set_cons_succ, List.set_cons_zero]
      refine oneZ (i := 5) (by kernel_rfl) rfl (by decide) (fun K hK => ?_)
      have hb5 := HV5.out.size
      have hzN := HZN.out
      have hZ8 := HZ8.out
      refine stepU36 (w := V5) rfl (.tmp 38) (.tmp 41) rfl (g6 + 1) vo E (by simp [Act.eval]) (own_keep HON.out HV5.out) V4.heap.size (setN us) (by simp [Act.eval]) HR5.out HLE.out (by omega) ?_
      intro ng cap w6 hown6 hg7 hat6
      have HR66 : Hid (Row w6 g6 87 [.int .i64 (N : Nat), vo]) := (HR64.out.up HV5.out).grown hg7 (fun e => by have := HOB.out _ e.symm; omega)
      have k8 : ∀ i u, V5.cell? ⟨g8, i, none⟩ = some u → w6.cell? ⟨g8, i, none⟩ = some u := fun i u h => (grown_cell hg7 (p := ⟨g8, i, none⟩) (by show g8 < V5.heap.size; omega) (fun e => HNE8.out e.symm)).trans h
      have KEEP6 : w6.cell? ⟨g8, 0, none⟩ = some (.slice VA us.length VC) ∧ w6.cell? ⟨g8, 1, none⟩ = some (.int .i64 (us.length : Nat)) ∧ w6.cell? ⟨g8, 2, none⟩ = some (.slice QA rp.length QC) ∧ w6.cell? ⟨g6, 1, none⟩ = some vo := ⟨k8 _ _ KEEP5.1.1, k8 _ _ KEEP5.1.2.1, k8 _ _ KEEP5.1.2.2, HR66.out.cell 1⟩
      have HO6 := Lib.hid hown6
      have HB6 : Hid (Below g6 W2 w6) := (Below.then HBN.out HV5.out (by omega)).grown hg7 (by omega) (fun j hj => by have := HOB.out j hj; omega)
      have u0 := HR66.out.frozen 1
      have u1 := HR66.out.lt
      have u2 := KEEP6.2.2.2
      clear hown6 hg7 hat6 k8 hb5 hzN hZ8
      refine hK.out _ _ (And.intro ⟨KEEP6.1, KEEP6.2.1, KEEP6.2.2.1⟩ KEEP6.2.2.2) (fun hHeld => ?_)
      clear hK K
      try simp only [Act.put, List.setIfInBounds_toArray, List.set_cons_succ, List.set_cons_zero]
      refine takeZ (i := 6) (v := ?_) (some 43) rfl rfl (by kernel_rfl) (by decide) (by kernel_rfl) (by kernel_rfl) (by kernel_rfl) (by kernel_rfl) (fun _ _ _ h => h) (Or.inl ⟨by rfl, ?_⟩) (by assumption) ?_
      rotate_left 1
      · (intro w0 hSw; (try dsimp only at hSw); go_simp; try (with_reducible rfl))
      try simp only [Act.put, List.setIfInBounds_toArray, List.set_cons_succ, List.set_cons_zero]
      refine lastZ (by kernel_rfl) rfl (by kernel_rfl) (fun K hK => ?_)
      go_simp
      go_wp2_with fail
      refine hK.out _ _ ?_
      clear hK K
      try simp only [Act.put, List.setIfInBounds_toArray, List.set_cons_succ, List.set_cons_zero]
      have HR7 := Lib.hid (HR66.out.set 1 (.slice (some ⟨ng, 0, none⟩) (E.length + 1) cap))
      have HO7 := Lib.hid (own_far HO6.out (p := ⟨g6, 1, none⟩) (fun e => by have h1 := own_base HO6.out e; simp only at h1; omega) (.slice (some ⟨ng, 0, none⟩) (E.length + 1) cap))
      have HB7 := Lib.hid (HB6.out.setCell (p := ⟨g6, 1, none⟩) (Nat.le_refl _) (.slice (some ⟨ng, 0, none⟩) (E.length + 1) cap))
      clear hHeld
      go_wp2_with fail
      go_roundw
      case rel => exact ⟨k + 1, _, hkl, by go_num, by rw [HTK.out, HGS2.out]; exact HR7.out, by rw [HTK.out, HGE.out, List.length_append]; exact HO7.out, HB7.out⟩
      case measure => simp [intOf]; omega
    · obtain ⟨hl1, htop⟩ := topV_last hne
      have hpos : 0 < us.length := List.length_pos_iff.2 hne
      have hd : decide ((0 : Int) < (us.length : Int)) = true := decide_eq_true (by omega)
      have hd1 : decide (0 < us.length) = true := decide_eq_true hpos
      obtain ⟨vb, vj, hva, hvb, vc⟩ := slI_at HVS.out (i := us.length - 1) (by rw [List.length_map]; exact hl1)
      subst hva
      have vc := (Below.then HBW.out HX3.out.below HBW.out.size).cell (p := ⟨vb, vj + (us.length - 1), none⟩) hvb |>.trans vc
      rw [List.getElem_map] at vc
      change W3.cell? ⟨vb, vj + (us.length - 1), none⟩ = some (.int .i64 (us[us.length - 1] : Nat)) at vc
      have hlv := HGK.out.lt _ (List.getElem_mem hl1)
      generalize us[us.length - 1] = lv at *
      have hvb3 : vb < W3.heap.size := by have := HBW.out.size; have := HX3.out.size; omega
      have HGS2 : Hid (graphN ((X.take k).map RA.at ++ [⟨us, UP⟩]) = max N (lv + 1)) := by show _ = _; rw [HGS.out, htop]
      have w1' : IntKind.i64.wrap ((us.length : Int) - 1) = ((us.length - 1 : Nat) : Int) := by rw [IntWalk.i64_in _ (by omega)]; omega
      have w2' : IntKind.i64.wrap ((lv : Int) + 1) = ((lv + 1 : Nat) : Int) := by rw [IntWalk.i64_in _ (by omega)]; omega
      have g1 : (0 : Int) ≤ ((us.length - 1 : Nat) : Int) := by omega
      have g2 : ((us.length - 1 : Nat) : Int) < (us.length : Int) := by omega
      clear HGS htop hne hvb
      go_upto_region 9 with (fail)
      refine regionZ (S := (fun w' => (w'.cell? ⟨g8, 0, none⟩ = some (.slice (some ⟨vb, vj, none⟩) us.length VC) ∧ w'.cell? ⟨g6, 0, none⟩ = some (.int .i64 (N : Nat))) ∧ w'.cell? ⟨vb, vj + (us.length - 1), none⟩ = some (.int .i64 (lv : Nat)))) 13 (by kernel_rfl) ⟨⟨e0, f0⟩, vc⟩ (fun hHeld => ?_)
      refine takeZ (i := 0) (v := ?_) (some 24) rfl rfl (by kernel_rfl) (by decide) (by kernel_rfl) (by kernel_rfl) (by kernel_rfl) (by kernel_rfl) (fun _ _ _ h => h) (Or.inl ⟨by rfl, ?_⟩) (by assumption) ?_
      rotate_left 1
      · (intro w0 hSw; (try dsimp only at hSw); go_simp; try (with_reducible rfl))
      try simp only [Act.put, List.setIfInBounds_toArray, List.set_cons_succ, List.set_cons_zero]
      refine takeZ (i := 1) (v := ?_) (some 25) rfl rfl (by kernel_rfl) (by decide) (by kernel_rfl) (by kernel_rfl) (by kernel_rfl) (by kernel_rfl) (fun _ _ _ h => h) (Or.inl ⟨by rfl, ?_⟩) (by assumption) ?_
      rotate_left 1
      · (intro w0 hSw; (try dsimp only at hSw); go_simp; try (with_reducible rfl))
      try simp only [Act.put, List.setIfInBounds_toArray, List.set_cons_succ, List.set_cons_zero]
      refine takeZ (i := 2) (v := ?_) (some 26) rfl rfl (by kernel_rfl) (by decide) (by kernel_rfl) (by kernel_rfl) (by kernel_rfl) (by kernel_rfl) (fun _ _ _ h => h) (Or.inl ⟨by rfl, ?_⟩) (by assumption) ?_
      rotate_left 1
      · (intro w0 hSw; (try dsimp only at hSw); go_simp; try (with_reducible rfl))
      try simp only [Act.put, List.setIfInBounds_toArray, List.set_cons_succ, List.set_cons_zero]
      refine takeZ (i := 3) (v := ?_) (some 27) rfl rfl (by kernel_rfl) (by decide) (by kernel_rfl) (by kernel_rfl) (by kernel_rfl) (by kernel_rfl) (fun _ _ _ h => h) (Or.inl ⟨by rfl, ?_⟩) (by assumption) ?_
      rotate_left 1
      · (intro w0 hSw; (try dsimp only at hSw); go_simp; try (with_reducible rfl))
      try simp only [Act.put, List.setIfInBounds_toArray, List.set_cons_succ, List.set_cons_zero]
      refine takeZ (i := 4) (v := ?_) (some 28) rfl rfl (by kernel_rfl) (by decide) (by kernel_rfl) (by kernel_rfl) (by kernel_rfl) (by kernel_rfl) (fun _ _ _ h => h) (Or.inl ⟨by rfl, ?_⟩) (by assumption) ?_
      rotate_left 1
      · (intro w0 hSw; (try dsimp only at hSw); go_simp; try (with_reducible rfl))
      try simp only [Act.put, List.setIfInBounds_toArray, List.set_cons_succ, List.set_cons_zero]
      refine takeZ (i := 5) (v := ?_) (some 29) rfl rfl (by kernel_rfl) (by decide) (by kernel_rfl) (by kernel_rfl) (by kernel_rfl) (by kernel_rfl) (fun _ _ _ h => h) (Or.inl ⟨by rfl, ?_⟩) (by assumption) ?_
      rotate_left 1
      · (intro w0 hSw; (try dsimp only at hSw); go_simp; try (with_reducible rfl))
      try simp only [Act.put, List.setIfInBounds_toArray, List.set_cons_succ, List.set_cons_zero]
      refine takeZ (i := 6) (v := ?_) (some 30) rfl rfl (by kernel_rfl) (by decide) (by kernel_rfl) (by kernel_rfl) (by kernel_rfl) (by kernel_rfl) (fun _ _ _ h => h) (Or.inl ⟨by rfl, ?_⟩) (by assumption) ?_
      rotate_left 1
      · (intro w0 hSw; (try dsimp only at hSw); go_simp; try (with_reducible rfl))
      try simp only [Act.put, List.setIfInBounds_toArray, List.set_cons_succ, List.set_cons_zero]
      refine takeZ (i := 7) (v := ?_) (some 31) rfl rfl (by kernel_rfl) (by decide) (by kernel_rfl) (by kernel_rfl) (by kernel_rfl) (by kernel_rfl) (fun _ _ _ h => h) (Or.inl ⟨by rfl, ?_⟩) (by assumption) ?_
      rotate_left 1
      · (intro w0 hSw; (try dsimp only at hSw); go_simp; try (with_reducible rfl))
      try simp only [Act.put, List.setIfInBounds_toArray, List.set_cons_succ, List.set_cons_zero]
      refine takeZ (i := 8) (v := ?_) (some 32) rfl rfl (by kernel_rfl) (by decide) (by kernel_rfl) (by kernel_rfl) (by kernel_rfl) (by kernel_rfl) (fun _ _ _ h => h) (Or.inl ⟨by rfl, ?_⟩) (by assumption) ?_
      rotate_left 1
      · (intro w0 hSw; (try dsimp only at hSw); go_simp; try (with_reducible rfl))
      try simp only [Act.put, List.setIfInBounds_toArray, List.set_cons_succ, List.set_cons_zero]
      refine takeZ (i := 9) (v := ?_) (some 33) rfl rfl (by kernel_rfl) (by decide) (by kernel_rfl) (by kernel_rfl) (by kernel_rfl) (by kernel_rfl) (fun _ _ _ h => h) (Or.inl ⟨by rfl, ?_⟩) (by assumption) ?_
      rotate_left 1
      · (intro w0 hSw; (try dsimp only at hSw); go_simp; try (with_reducible rfl))
      try simp only [Act.put, List.setIfInBounds_toArray, List.set_cons_succ, List.set_cons_zero]
      refine takeZ (i := 10) (v := ?_) (some 34) rfl rfl (by kernel_rfl) (by decide) (by kernel_rfl) (by kernel_rfl) (by kernel_rfl) (by kernel_rfl) (fun _ _ _ h => h) (Or.inl ⟨by rfl, ?_⟩) (by assumption) ?_
      rotate_left 1
      · (intro w0 hSw; (try dsimp only at hSw); go_simp; try (with_reducible rfl))
      try simp only [Act.put, List.setIfInBounds_toArray, List.set_cons_succ, List.set_cons_zero]
      refine takeZ (i := 11) (v := ?_) (some 35) rfl rfl (by kernel_rfl) (by decide) (by kernel_rfl) (by kernel_rfl) (by kernel_rfl) (by kernel_rfl) (fun _ _ _ h => h) (Or.inl ⟨by rfl, ?_⟩) (by assumption) ?_
      rotate_left 1
      · (intro w0 hSw; (try dsimp only at hSw); go_simp; try (with_reducible rfl))
      try simp only [Act.put, List.setIfInBounds_toArray, List.set_cons_succ, List.set_cons_zero]
      refine takeZ (i := 12) (v := ?_) (some 36) rfl rfl (by kernel_rfl) (by decide) (by kernel_rfl) (by kernel_rfl) (by kernel_rfl) (by kernel_rfl) (fun _ _ _ h => h) (Or.inl ⟨by rfl, ?_⟩) (by assumption) ?_
      rotate_left 1
      · (intro w0 hSw; (try dsimp only at hSw); go_simp; try (with_reducible rfl))
      try simp only [Act.put, List.setIfInBounds_toArray, List.set_cons_succ, List.set_cons_zero]
      refine lastZ (by kernel_rfl) rfl (by kernel_rfl) (fun K hK => ?_)
      go_simp
      go_wp2_with fail
      refine hK.out _ _ ?_
      clear hK K
      try simp only [Act.put, List.setIfInBounds_toArray, List.set_cons_succ, List.set_cons_zero]
      have hmx : max (N : Int) ((lv : Int) + 1) = ((max N (lv + 1) : Nat) : Int) := by omega
      rw [hmx]
      obtain ⟨W4, hW4⟩ : ∃ W4, W4 = (W3.setCell ⟨g6, 0, none⟩ (.int .i64 ((max N (lv + 1) : Nat) : Int))).drew := ⟨_, rfl⟩
      rw [← hW4]
      have HRN : Hid (Row W4 g6 87 [.int .i64 ((max N (lv + 1) : Nat) : Int), vo]) := by show Row _ _ _ _; rw [hW4]; exact (HR63.out.set 0 _).drew
      have HR8N : Hid (Row W4 g8 36 [.slice (some ⟨vb, vj, none⟩) us.length VC, .int .i64 (us.length : Nat), .slice QA rp.length QC]) := by show Row _ _ _ _; rw [hW4]; exact (HR8.out.far (by show g8 ≠ g6; have := HZ8.out; omega) _).drew
      have HSW : Hid (SlI .i64 W4.heap.size W4 (some ⟨vb, vj, none⟩) (us.map Int.ofNat)) := by
        have h1 : SlI .i64 w1.heap.size W3 (some ⟨vb, vj, none⟩) (us.map Int.ofNat) := Sl.below (Sl.below HVS.out HBW.out (Nat.le_refl _)) HX3.out.below (by have := HBW.out.size; omega)
        show Sl _ _ _ _
        rw [hW4]
        exact Sl.drew ((Sl.setCell h1 (p := ⟨g6, 0, none⟩) (by show w1.heap.size ≤ g6; omega) _).more (by simp; have := HX3.out.size; have := HBW.out.size; omega))
      have HON : Hid (W4.ownsRow (g6 + 1) 57 1 vo E.length (E.map fun z : Nat => Value.int .u32 (z : Int))) := by
        show World.ownsRow _ _ _ _ _ _ _
        rw [hW4]
        exact own_keep (own_far HO3.out (p := ⟨g6, 0, none⟩) (fun e => by have h1 := own_base HO3.out e; simp only at h1; omega) _) (Below.refl _ _).drew
      have HBN : Hid (Below g6 W2 W4) := by show Below _ _ _; rw [hW4]; exact (HB3.out.setCell (p := ⟨g6, 0, none⟩) (Nat.le_refl _) _).drew
      have HZN : Hid (g6 + 1 ≤ W4.heap.size ∧ g8 < W4.heap.size) := by
        have : W4.heap.size = W3.heap.size := by rw [hW4]; simp
        show _ ∧ _
        omega
      have HNE8 : Hid (vo.ownBlock ≠ some g8) := fun e => by have := HOLT.out _ e; have := HG8E.out; omega
      clear hHeld e0 e1 e2 f0 f1 f2 f3 f4 vc hmx hW4 hd hd1
      have HR64 : Hid (Row W4 g6 87 [.int .i64 ((max N (lv + 1) : Nat) : Int), vo]) := HRN.out
      have HR84 : Hid (Row W4 g8 36 [.slice (some ⟨vb, vj, none⟩) us.length VC, .int .i64 (us.length : Nat), .slice QA rp.length QC]) := HR8N.out
      have HKP : Hid (∀ W, Below W4.heap.size W4 W → (W.cell? ⟨g8, 0, none⟩ = some (.slice (some ⟨vb, vj, none⟩) us.length VC) ∧ W.cell? ⟨g8, 1, none⟩ = some (.int .i64 (us.length : Nat)) ∧ W.cell? ⟨g8, 2, none⟩ = some (.slice QA rp.length QC)) ∧ W.cell? ⟨g6, 1, none⟩ = some vo) := fun W h => ⟨⟨(HR84.out.up h).cell 0, (HR84.out.up h).cell 1, (HR84.out.up h).cell 2⟩, (HR64.out.up h).cell 1⟩
      have HSE := Lib.hid (sjSet_any (some ⟨vb, vj, none⟩) QA VC QC rp.length us.length us W4.drew HSW.out.drew (by omega) HGK.out.lt)
      have HOB : Hid (∀ j, vo.ownBlock = some j → g6 + 1 ≤ j) := fun j hj => own_base HON.out hj
      go_upto_region 10 with (fail)
      refine regionZ (S := (fun w' => (w'.cell? ⟨g8, 0, none⟩ = some (.slice (some ⟨vb, vj, none⟩) us.length VC) ∧ w'.cell? ⟨g8, 1, none⟩ = some (.int .i64 (us.length : Nat)) ∧ w'.cell? ⟨g8, 2, none⟩ = some (.slice QA rp.length QC)) ∧ w'.cell? ⟨g6, 1, none⟩ = some vo)) 7 (by kernel_rfl) (HKP.out W4.drew (Below.refl _ _).drew) (fun hHeld => ?_)
      refine takeZ (i := 0) (v := ?_) (some 37) rfl rfl (by kernel_rfl) (by decide) (by kernel_rfl) (by kernel_rfl) (by kernel_rfl) (by kernel_rfl) (fun _ _ _ h => h) (Or.inl ⟨by rfl, ?_⟩) (by assumption) ?_
      rotate_left 1
      · (intro w0 hSw; (try dsimp only at hSw); go_simp; try (with_reducible rfl))
      try simp only [Act.put, List.setIfInBounds_toArray, List.set_cons_succ, List.set_cons_zero]
      refine takeZ (i := 1) (v := ?_) (some 38) rfl rfl (by kernel_rfl) (by decide) (by kernel_rfl) (by kernel_rfl) (by kernel_rfl) (by kernel_rfl) (fun _ _ _ h => h) (Or.inl ⟨by rfl, ?_⟩) (by assumption) ?_
      rotate_left 1
      · (intro w0 hSw; (try dsimp only at hSw); go_simp; try (with_reducible rfl))
      try simp only [Act.put, List.setIfInBounds_toArray, List.set_cons_succ, List.set_cons_zero]
      refine takeZ (i := 2) (v := ?_) (some 39) rfl rfl (by kernel_rfl) (by decide) (by kernel_rfl) (by kernel_rfl) (by kernel_rfl) (by kernel_rfl) (fun _ _ _ h => h) (Or.inl ⟨by rfl, ?_⟩) (by assumption) ?_
      rotate_left 1
      · (intro w0 hSw; (try dsimp only at hSw); go_simp; try (with_reducible rfl))
      try simp only [Act.put, List.setIfInBounds_toArray, List.set_cons_succ, List.set_cons_zero]
      refine oneZ (i := 3) (by kernel_rfl) rfl (by decide) (fun K hK => ?_)
      go_simp
      refine HSE.out.mono ?_
      rintro e V4 ⟨rfl, hb⟩
      have HV4 : Hid (Below W4.heap.size W4 V4) := Below.undrew hb.below
      clear hb
      go_wp2_with fail
      refine hK.out _ _ (HKP.out V4 HV4.out) (fun hHeld => ?_)
      clear hK K
      try simp only [Act.put, List.setIfInBounds_toArray, List.set_cons_succ, List.set_cons_zero]
      refine oneZ (i := 4) (by kernel_rfl) rfl (by decide) (fun K hK => ?_)
      go_simp
      obtain ⟨V5, hV5⟩ : ∃ V5, V5 = V4.alloc (.cells #[.int .u32 (setN us : Nat)] 57) := ⟨_, rfl⟩
      rw [← hV5]
      have HV5E := Lib.hid hV5
      have HV5 : Hid (Below W4.heap.size W4 V5) := by rw [hV5]; exact Below.then HV4.out ((Ext.refl V4).alloc _).below HV4.out.size
      have KEEP5 := HKP.out V5 HV5.out
      have HR5 : Hid (Row V5 V4.heap.size 57 [.int .u32 (setN us : Nat)]) := by show Row _ _ _ _; rw [hV5]; exact Row.new V4 57 _
      clear hV5
      refine hK.out _ _ KEEP5 (fun hHeld => ?_)
      clear hK K
      try simp only [Act.put, List.setIfInBounds_toArray, List.set_cons_succ, List.set_cons_zero]
      refine oneZ (i := 5) (by kernel_rfl) rfl (by decide) (fun K hK => ?_)
      have hb5 := HV5.out.size
      have hzN := HZN.out
      have hZ8 := HZ8.out
      refine stepU36 (w := V5) rfl (.tmp 38) (.tmp 41) rfl (g6 + 1) vo E (by simp [Act.eval]) (own_keep HON.out HV5.out) V4.heap.size (setN us) (by simp [Act.eval]) HR5.out HLE.out (by omega) ?_
      intro ng cap w6 hown6 hg7 hat6
      have HR66 : Hid (Row w6 g6 87 [.int .i64 ((max N (lv + 1) : Nat) : Int), vo]) := (HR64.out.up HV5.out).grown hg7 (fun e => by have := HOB.out _ e.symm; omega)
      have k8 : ∀ i u, V5.cell? ⟨g8, i, none⟩ = some u → w6.cell? ⟨g8, i, none⟩ = some u := fun i u h => (grown_cell hg7 (p := ⟨g8, i, none⟩) (by show g8 < V5.heap.size; omega) (fun e => HNE8.out e.symm)).trans h
      have KEEP6 : w6.cell? ⟨g8, 0, none⟩ = some (.slice (some ⟨vb, vj, none⟩) us.length VC) ∧ w6.cell? ⟨g8, 1, none⟩ = some (.int .i64 (us.length : Nat)) ∧ w6.cell? ⟨g8, 2, none⟩ = some (.slice QA rp.length QC) ∧ w6.cell? ⟨g6, 1, none⟩ = some vo := ⟨k8 _ _ KEEP5.1.1, k8 _ _ KEEP5.1.2.1, k8 _ _ KEEP5.1.2.2, HR66.out.cell 1⟩
      have HO6 := Lib.hid hown6
      have HB6 : Hid (Below g6 W2 w6) := (Below.then HBN.out HV5.out (by omega)).grown hg7 (by omega) (fun j hj => by have := HOB.out j hj; omega)
      have u0 := HR66.out.frozen 1
      have u1 := HR66.out.lt
      have u2 := KEEP6.2.2.2
      clear hown6 hg7 hat6 k8 hb5 hzN hZ8
      refine hK.out _ _ (And.intro ⟨KEEP6.1, KEEP6.2.1, KEEP6.2.2.1⟩ KEEP6.2.2.2) (fun hHeld => ?_)
      clear hK K
      try simp only [Act.put, List.setIfInBounds_toArray, List.set_cons_succ, List.set_cons_zero]
      refine takeZ (i := 6) (v := ?_) (some 43) rfl rfl (by kernel_rfl) (by decide) (by kernel_rfl) (by kernel_rfl) (by kernel_rfl) (by kernel_rfl) (fun _ _ _ h => h) (Or.inl ⟨by rfl, ?_⟩) (by assumption) ?_
      rotate_left 1
      · (intro w0 hSw; (try dsimp only at hSw); go_simp; try (with_reducible rfl))
      try simp only [Act.put, List.setIfInBounds_toArray, List.set_cons_succ, List.set_cons_zero]
      refine lastZ (by kernel_rfl) rfl (by kernel_rfl) (fun K hK => ?_)
      go_simp
      go_wp2_with fail
      refine hK.out _ _ ?_
      clear hK K
      try simp only [Act.put, List.setIfInBounds_toArray, List.set_cons_succ, List.set_cons_zero]
      have HR7 := Lib.hid (HR66.out.set 1 (.slice (some ⟨ng, 0, none⟩) (E.length + 1) cap))
      have HO7 := Lib.hid (own_far HO6.out (p := ⟨g6, 1, none⟩) (fun e => by have h1 := own_base HO6.out e; simp only at h1; omega) (.slice (some ⟨ng, 0, none⟩) (E.length + 1) cap))
      have HB7 := Lib.hid (HB6.out.setCell (p := ⟨g6, 1, none⟩) (Nat.le_refl _) (.slice (some ⟨ng, 0, none⟩) (E.length + 1) cap))
      clear hHeld
      go_wp2_with fail
      go_roundw
      case rel => exact ⟨k + 1, _, hkl, by go_num, by rw [HTK.out, HGS2.out]; exact HR7.out, by rw [HTK.out, HGE.out, List.length_append]; exact HO7.out, HB7.out⟩
      case measure => simp [intOf]; omega
end
section
open Go.RowKit Go.Sort

set_option maxHeartbeats 8000000 in
theorem r36Wrong_any (AA ZA : Option Addr) (AC ZC : Nat) (X : List RA) (w : World) (hA : AtsR w.heap.size w AA X) (hZ : SlI .i64 w.heap.size w ZA (X.map (·.ar))) (hXl : X.length ≤ 1000000) (hvl : ∀ a ∈ X, a.vs.length ≤ 1000000) :
    Calls Tryz.prog 11 #[.slice AA X.length AC, .slice ZA X.length ZC] w fun e w' => e = .returned (.int .i64 (errC X)) ∧ Below w.heap.size w w' := by
  have HA := Lib.hid hA
  have HZ := Lib.hid hZ
  have HVL := Lib.hid hvl
  clear hA hZ hvl
  by_cases hX : 32 < X.length
  · have HE : Hid (errC X = 12) := by show _ = _; unfold errC; rw [if_pos hX]
    have hd3 : decide ((32 : Int) < (X.length : Int)) = true := decide_eq_true (by omega)
    go_enter Tryz.func11, Tryz.ntmps11
    go_wp2
    go_ret
    exact ⟨by rw [HE.out]; rfl, Below.refl _ _⟩
  have hd3 : decide ((32 : Int) < (X.length : Int)) = false := decide_eq_false (by omega)
  go_enter Tryz.func11, Tryz.ntmps11
  go_wp2
  clear hd3
  go_loopw [5] (fun c wr => ∃ k : Nat, k ≤ X.length ∧ c = .int .i64 k ∧ Below w.heap.size w wr ∧ ∀ j (hj : j < X.length), j < k → errAt 32 X[j] = 0) (fun c _ => X.length - (intOf c).toNat)
  case atStart => exact ⟨0, Nat.zero_le _, rfl, Below.refl _ _, fun j _ h => absurd h (by omega)⟩
  case round =>
    obtain ⟨k, hk, rfl, hbw, hall⟩ := hrel
    have HBW := Lib.hid hbw
    have HALL := Lib.hid hall
    clear hbw hall
    by_cases h1 : k < X.length
    · obtain ⟨b, o, VA, VC, PA, PC, rfl, hbl, c0, -, -, -, -, -, q5, -⟩ := atsR_at HA.out h1
      have c0 := (HBW.out.cell (p := ⟨b, o + k * 2, none⟩) hbl).trans c0
      have hb := Nat.lt_of_lt_of_le hbl HBW.out.size
      have hvl := HVL.out _ (List.getElem_mem h1)
      have HVS := Lib.hid q5
      obtain ⟨zb, zo, hza, hzbl, zc⟩ := slI_at HZ.out (show k < (X.map (·.ar)).length by rw [List.length_map]; exact h1)
      rw [List.getElem_map] at zc
      subst hza
      have zc := (HBW.out.cell (p := ⟨zb, zo + k, none⟩) hzbl).trans zc
      have hzb := Nat.lt_of_lt_of_le hzbl HBW.out.size
      have HERR : Hid (errAt 32 X[k] ≠ 0 → errC X = errAt 32 X[k]) := fun hne => errC_at hX h1 HALL.out hne
      have HNX : Hid (errAt 32 X[k] = 0 → ∀ j (hj : j < X.length), j < k + 1 → errAt 32 X[j] = 0) := fun h0 j hj hlt => by
        rcases Nat.lt_or_ge j k with h | h
        · exact HALL.out j hj h
        · have : j = k := by omega
          subst this
          exact h0
      clear q5
      generalize X[k] = r at *
      have g1 : (0 : Int) ≤ (k : Int) := by omega
      have g2 : (k : Int) < (X.length : Int) := by omega
      have hw1 : IntKind.i64.wrap ((k : Int) + 1) = ((k + 1 : Nat) : Int) := by rw [IntWalk.i64_in _ (by omega)]; omega
      obtain ⟨wo, hwo⟩ : ∃ wo, wo = wr := ⟨_, rfl⟩
      subst hwo
      go_wp2_with fail
      go_loopw [6] (fun c wx => ∃ i : Nat, 1 ≤ i ∧ c = .int .i64 i ∧ (∀ p (h : p + 1 < r.vs.length), p + 1 < i → r.vs[p] < r.vs[p + 1]) ∧ Ext wo wx) (fun c _ => r.vs.length - (intOf c).toNat)
      case atStart => exact ⟨1, Nat.le_refl _, rfl, fun p _ h => absurd h (by omega), Ext.refl _⟩
      case round =>
        obtain ⟨i, hi1, rfl, hasc, hxi⟩ := hrel
        have HASC := Lib.hid hasc
        have HXI := Lib.hid hxi
        have c0 := (hxi.cell (o := o + k * 2) hb).trans c0
        have zc := (hxi.cell (o := zo + k) hzb).trans zc
        have hb := Nat.lt_of_lt_of_le hb hxi.size
        have hzb := Nat.lt_of_lt_of_le hzb hxi.size
        have HBX := Lib.hid (Below.trans HBW.out (hxi.below.mono HBW.out.size))
        clear hasc hxi
        by_cases h2 : i < r.vs.length
        · obtain ⟨vb, vo, hva, hvb, va⟩ := slI_at HVS.out (show i - 1 < r.vs.length by omega)
          obtain ⟨vb2, vo2, hva2, -, vc⟩ := slI_at HVS.out h2
          rw [hva] at hva2
          injection hva2 with hva2
          injection hva2 with e1 e2
          subst e1 e2 hva
          have va := (HBX.out.cell (p := ⟨vb, vo + (i - 1), none⟩) hvb).trans va
          have vc := (HBX.out.cell (p := ⟨vb, vo + i, none⟩) hvb).trans vc
          have hvb2 := Nat.lt_of_lt_of_le hvb HBX.out.size
          have HG : Hid (r.vs[i] ≤ r.vs[i - 1] → errAt 32 r = 16) := fun hge => by
            refine errAt_order (p := i - 1) (by omega) ?_
            have e : i - 1 + 1 = i := by omega
            simp only [e]
            exact hge
          have HL : Hid (¬ r.vs[i] ≤ r.vs[i - 1] → ∀ p (h : p + 1 < r.vs.length), p + 1 < i + 1 → r.vs[p] < r.vs[p + 1]) := fun hlt p h hp => by
            rcases Nat.lt_or_ge (p + 1) i with h3 | h3
            · exact HASC.out p h h3
            · have : i = p + 1 := by omega
              subst this
              have e : p + 1 - 1 = p := by omega
              simp only [e] at hlt
              omega
          generalize r.vs[i] = y at *
          generalize r.vs[i - 1] = z at *
          have hws : IntKind.i64.wrap ((i : Int) - 1) = ((i - 1 : Nat) : Int) := by rw [IntWalk.i64_in _ (by omega)]; omega
          have hwi : IntKind.i64.wrap ((i : Int) + 1) = ((i + 1 : Nat) : Int) := by rw [IntWalk.i64_in _ (by omega)]; omega
          have g3 : (0 : Int) ≤ ((i - 1 : Nat) : Int) := by omega
          have g4 : ((i - 1 : Nat) : Int) < (r.vs.length : Int) := by omega
          have g5 : (0 : Int) ≤ (i : Int) := by omega
          have g6 : (i : Int) < (r.vs.length : Int) := by omega
          by_cases hge : y ≤ z
          · have hdd : decide (y ≤ z) = true := decide_eq_true hge
            have HE := Lib.hid (HERR.out (by rw [HG.out hge]; decide))
            have HE2 := Lib.hid (HG.out hge)
            go_wp2
            go_quiet (fail)
            go_wp2
            go_ret
            exact ⟨by rw [HE.out, HE2.out]; rfl, Below.then HBX.out ((Ext.refl wr).drewN _).below HBX.out.size⟩
          · have hdd : decide (y ≤ z) = false := decide_eq_false hge
            have HL2 := Lib.hid (HL.out hge)
            clear HG HL
            go_wp2
            go_quiet (fail)
            go_wp2
            go_roundw
            case rel => exact ⟨i + 1, by omega, by go_num, HL2.out, HXI.out.drewN _⟩
            case measure => simp [intOf]; omega
        have HP : Hid (r.vs.Pairwise (· < ·)) := pairwise_adj _ fun p h => HASC.out p h (by omega)
        obtain ⟨wp, hwp⟩ : ∃ wp, wp = wr := ⟨_, rfl⟩
        subst hwp
        clear HASC
        go_wp2_with fail
        go_loopw [7] (fun c wx => ∃ j : Nat, j ≤ r.vs.length ∧ c = .int .i64 j ∧ (∀ v ∈ r.vs.take j, 0 ≤ v ∧ v < (32 : Int)) ∧ wx = wp) (fun c _ => r.vs.length - (intOf c).toNat)
        case atStart => exact ⟨0, Nat.zero_le _, rfl, fun v hv => by simp at hv, rfl⟩
        case round =>
          obtain ⟨j, hj, rfl, hrg, rfl⟩ := hrel
          have HRG := Lib.hid hrg
          clear hrg
          by_cases h3 : j < r.vs.length
          · obtain ⟨vb, vo, hva, hvb, vc⟩ := slI_at HVS.out h3
            subst hva
            have vc := (HBX.out.cell (p := ⟨vb, vo + j, none⟩) hvb).trans vc
            have hvb2 := Nat.lt_of_lt_of_le hvb HBX.out.size
            have HVM : Hid (r.vs[j] ∈ r.vs) := List.getElem_mem h3
            have HTJ : Hid (r.vs.take (j + 1) = r.vs.take j ++ [r.vs[j]]) := List.take_succ_eq_append_getElem h3
            generalize r.vs[j] = v at *
            have g3 : (0 : Int) ≤ (j : Int) := by omega
            have g4 : (j : Int) < (r.vs.length : Int) := by omega
            have hwj : IntKind.i64.wrap ((j : Int) + 1) = ((j + 1 : Nat) : Int) := by rw [IntWalk.i64_in _ (by omega)]; omega
            by_cases hv0 : v < 0
            · have hE2 := errAt_range HP.out HVM.out (.inl hv0 : v < 0 ∨ (32 : Int) ≤ v)
              have HE := Lib.hid (HERR.out (by rw [hE2]; decide))
              have HE2 := Lib.hid hE2
              have hdd : decide (v < 0) = true := decide_eq_true hv0
              clear hE2
              go_wp2
              go_ret
              exact ⟨by rw [HE.out, HE2.out]; rfl, HBX.out⟩
            by_cases hvm : (32 : Int) ≤ v
            · have hE2 := errAt_range HP.out HVM.out (.inr hvm : v < 0 ∨ (32 : Int) ≤ v)
              have HE := Lib.hid (HERR.out (by rw [hE2]; decide))
              have HE2 := Lib.hid hE2
              have hdd : decide (v < 0) = false := decide_eq_false hv0
              have hdd2 : decide ((31 : Int) < v) = true := decide_eq_true (by omega)
              clear hE2
              go_wp2
              go_ret
              exact ⟨by rw [HE.out, HE2.out]; rfl, HBX.out⟩
            have hdd : decide (v < 0) = false := decide_eq_false hv0
            have hdd2 : decide ((31 : Int) < v) = false := decide_eq_false (by omega)
            have HV2 : Hid (0 ≤ v ∧ v < (32 : Int)) := ⟨by omega, by omega⟩
            clear hv0 hvm
            go_wp2
            go_roundw
            case rel =>
              refine ⟨j + 1, h3, by go_num, fun v hv => ?_, by first | rfl | trivial⟩
              rw [HTJ.out] at hv
              rcases List.mem_append.1 hv with h | h
              · exact HRG.out v h
              · simp at h; subst h; exact HV2.out
            case measure => simp [intOf]; omega
          have HRALL : Hid (∀ v ∈ r.vs, 0 ≤ v ∧ v < (32 : Int)) := fun v hv => HRG.out v (by rw [List.take_of_length_le (by omega)]; exact hv)
          have HEA : Hid (errAt 32 r = if (r.vs.length : Int) = r.ar then 0 else 6) := errAt_arity HP.out HRALL.out
          clear HRG
          by_cases he : (r.vs.length : Int) = r.ar
          rotate_left
          · have hnb : ((r.vs.length : Int) != r.ar) = true := by simpa using he
            have HE := Lib.hid (HERR.out (by rw [HEA.out, if_neg he]; decide))
            have HE2 := Lib.hid (HEA.out.trans (if_neg he))
            clear he
            go_wp2
            go_quiet (fail)
            go_wp2
            go_ret
            exact ⟨by rw [HE.out, HE2.out]; rfl, Below.then HBX.out ((Ext.refl wr).drewN _).below HBX.out.size⟩
          have HZ0 := Lib.hid (HNX.out (by rw [HEA.out, if_pos he]))
          have hnb : ((r.vs.length : Int) != r.ar) = false := by simp [he]
          clear he HERR HNX HEA
          go_wp2
          go_quiet (fail)
          go_wp2
          go_roundw
          case rel => exact ⟨k + 1, by omega, by go_num, Below.then HBX.out ((Ext.refl wr).drewN _).below HBX.out.size, HZ0.out⟩
          case measure => simp [intOf]; omega
    · obtain rfl : k = X.length := by omega
      have HE : Hid (errC X = 0) := by
        show _ = _
        unfold errC
        rw [if_neg hX]
        have : X.find? (fun a => errAt 32 a != 0) = none := List.find?_eq_none.2 fun a ha => by
          obtain ⟨i, hi, rfl⟩ := List.getElem_of_mem ha
          have := HALL.out i hi hi
          simp [this]
        rw [this]
      go_wp2
      go_ret
      exact ⟨by rw [HE.out]; rfl, HBW.out⟩
end
section
open Go.RowKit Go.Sort

section
variable {P : Program} {ops : Array Oper} {Q : Exit → Act → World → Prop} {md : Region.Mode} {S : World → Prop} {zs : List Nat}

def wpAnyS (P : Program) (md : Region.Mode) (ops : Array Oper) (Q : Exit → Act → World → Prop) (S : World → Prop) (zs : List Nat) : Nat → Array Bool → Act → World → Prop
  | 0, listed, a, w => Region.ready md ops listed = [] ∧ Q .normal a w
  | fuel + 1, listed, a, w =>
    (Region.ready md ops listed = [] → Q .normal a w) ∧
    ∀ i ∈ Region.ready md ops listed, wpOp P ops Q i (fun a' w' => (zs.contains i = false → S w → S w') ∧ wpAnyS P md ops Q S zs fuel (listed.setIfInBounds i true) a' w') a w
theorem wpAny_of_S : ∀ (fuel : Nat) (listed : Array Bool) (a : Act) (w : World), wpAnyS P md ops Q S zs fuel listed a w → wpAny P md ops Q fuel listed a w
  | 0, _, _, _, h => h
  | fuel + 1, _, _, _, h => ⟨h.1, fun i hi => wpOp_mono (fun a' w' h' => wpAny_of_S fuel _ a' w' h'.2) (h.2 i hi)⟩
def waitB (md : Region.Mode) (ops : Array Oper) (zs : List Nat) (i : Nat) : Bool := zs.all fun z => (reach md ops z 2).contains i
theorem not_listed {listed : Array Bool} {i : Nat} (hr : i ∈ Region.ready md ops listed) (h : listed.getD i false = true) : False := by
  obtain ⟨hun, oi, hoi, _⟩ := mem_ready.1 hr
  rcases Nat.lt_or_ge i listed.size with h' | h'
  · simp [h'] at hun h
    rw [hun] at h
    cases h
  · simp [Array.getElem?_eq_none h'] at h

theorem wpAnyS_first {i : Nat} {oi : Oper} {v : Value} (hz : waitB md ops zs i = true) (hiz : zs.contains i = false) (hi : ops[i]? = some oi) (hsel : ∀ (j : Nat) (o : Oper) cs b, ops[j]? = some o → o.op ≠ .select cs b)
    (hQ : ∀ c a w, Q (.panic c) (a.put oi.dst v) w → Q (.panic c) a w) :
    ∀ (fuel : Nat) (listed : Array Bool) (a : Act) (w : World), Cl md ops listed →
      (∀ j oj, ops[j]? = some oj → j ≠ i → listed.getD j true = false → (∀ e ∈ oj.after, Region.binds md e = true → e.on ≠ i) → oi.apart ops oj = true) →
      i ∈ Region.ready md ops listed → YieldsIf P ops S oi v a → S w →
      wpAnyS P md ops Q S zs fuel (listed.setIfInBounds i true) (a.put oi.dst v) w → wpAnyS P md ops Q S zs (fuel + 1) listed a w
  | 0, listed, a, w, _, _, hr, hy, hS, H => by
    refine ⟨fun h => (by rw [h] at hr; cases hr), fun j hj => ?_⟩
    by_cases hji : j = i
    · subst hji; exact hy.wpOp hi hS ⟨fun _ _ => hS, H⟩
    · have := ready_mono hj hji
      rw [H.1] at this
      cases this
  | fuel + 1, listed, a, w, hc, hfree, hr, hy, hS, H => by
    refine ⟨fun h => (by rw [h] at hr; cases hr), fun j hj => ?_⟩
    by_cases hji : j = i
    · subst hji; exact hy.wpOp hi hS ⟨fun _ _ => hS, H⟩
    · have hjz : zs.contains j = false := by
        cases h : zs.contains j with
        | false => rfl
        | true =>
          have h1 := List.all_eq_true.1 hz j (by simpa using h)
          exact (not_listed hr (reach_listed hc hj 2 i (by simpa using h1))).elim
      have h1 := H.2 j (ready_mono hj hji)
      obtain ⟨hjun, oj, hoj, hall⟩ := mem_ready.1 hj
      have hnot : ∀ e ∈ oj.after, Region.binds md e = true → e.on ≠ i := fun e he hb heq => by
        have h2 := hall e he hb
        rw [heq] at h2
        exact not_listed hr h2
      have h2 := wpOp_putIf hoj (hfree j oj hoj hji hjun hnot) (fun cs b => hsel i oi cs b hi) (fun cs b => hsel j oj cs b hoj) hQ hy h1
      refine wpOp_mono (fun a' w' h3 => ⟨h3.2.1, wpAnyS_first hz hiz hi hsel hQ fuel (listed.setIfInBounds j true) a' w' (hc.step hj) (fun k ok hk hki hun hno => ?_) (ready_mono hr (Ne.symm hji)) h3.1 (h3.2.1 hjz hS) ?_⟩) h2
      · refine hfree k ok hk hki ?_ hno
        by_cases hjk : j = k
        · subst hjk; exact hjun
        · rw [getD_set_ne true hjk] at hun; exact hun
      · rw [Array.setIfInBounds_comm _ _ hji]
        exact h3.2.2
theorem wpAnyS_free {i : Nat} {oi : Oper} {v : Value} (hi : ops[i]? = some oi) (hsel : ∀ (j : Nat) (o : Oper) cs b, ops[j]? = some o → o.op ≠ .select cs b)
    (hQ : ∀ c a w, Q (.panic c) (a.put oi.dst v) w → Q (.panic c) a w) :
    ∀ (fuel : Nat) (listed : Array Bool) (a : Act) (w : World),
      (∀ j oj, ops[j]? = some oj → j ≠ i → listed.getD j true = false → (∀ e ∈ oj.after, Region.binds md e = true → e.on ≠ i) → oi.apart ops oj = true) →
      i ∈ Region.ready md ops listed → YieldsIf P ops (fun _ => True) oi v a →
      wpAnyS P md ops Q S zs fuel (listed.setIfInBounds i true) (a.put oi.dst v) w → wpAnyS P md ops Q S zs (fuel + 1) listed a w
  | 0, listed, a, w, _, hr, hy, H => by
    refine ⟨fun h => (by rw [h] at hr; cases hr), fun j hj => ?_⟩
    by_cases hji : j = i
    · subst hji; exact hy.wpOp hi trivial ⟨fun _ h => h, H⟩
    · have := ready_mono hj hji
      rw [H.1] at this
      cases this
  | fuel + 1, listed, a, w, hfree, hr, hy, H => by
    refine ⟨fun h => (by rw [h] at hr; cases hr), fun j hj => ?_⟩
    by_cases hji : j = i
    · subst hji; exact hy.wpOp hi trivial ⟨fun _ h => h, H⟩
    · have h1 := H.2 j (ready_mono hj hji)
      obtain ⟨hjun, oj, hoj, hall⟩ := mem_ready.1 hj
      have hnot : ∀ e ∈ oj.after, Region.binds md e = true → e.on ≠ i := fun e he hb heq => by
        have h2 := hall e he hb
        rw [heq] at h2
        exact not_listed hr h2
      have h2 := wpOp_putIf hoj (hfree j oj hoj hji hjun hnot) (fun cs b => hsel i oi cs b hi) (fun cs b => hsel j oj cs b hoj) hQ hy h1
      refine wpOp_mono (fun a' w' h3 => ⟨h3.2.1, wpAnyS_free hi hsel hQ fuel (listed.setIfInBounds j true) a' w' (fun k ok hk hki hun hno => ?_) (ready_mono hr (Ne.symm hji)) h3.1 ?_⟩) h2
      · refine hfree k ok hk hki ?_ hno
        by_cases hjk : j = k
        · subst hjk; exact hjun
        · rw [getD_set_ne true hjk] at hun; exact hun
      · rw [Array.setIfInBounds_comm _ _ hji]
        exact h3.2.2

theorem takeS {i : Nat} {oi : Oper} {v : Value} {fuel : Nat} {listed : Array Bool} {a : Act} {w : World} (d : Option Tmp) (hi : ops[i]? = some oi) (hd : oi.dst = d)
    (hz : waitB md ops zs i = true) (hiz : zs.contains i = false) (hcl : clB md ops listed = true) (hs : Region.noSelect ops = true) (hf : Region.free md ops listed i = true) (hr : (Region.ready md ops listed).contains i = true)
    (hQ : ∀ c a w, Q (.panic c) (a.put d v) w → Q (.panic c) a w) (hy : YieldsIf P ops S oi v a) (hS : S w)
    (h : wpAnyS P md ops Q S zs fuel (listed.setIfInBounds i true) (a.put d v) w) : wpAnyS P md ops Q S zs (fuel + 1) listed a w := by
  subst hd
  exact wpAnyS_first hz hiz hi (Region.noSelect_spec hs) hQ fuel listed a w (Cl.of hcl) (Region.free_spec hi hf) (by simpa using hr) hy hS h
theorem takeFree {i : Nat} {oi : Oper} {v : Value} {fuel : Nat} {listed : Array Bool} {a : Act} {w : World} (d : Option Tmp) (hi : ops[i]? = some oi) (hd : oi.dst = d)
    (hs : Region.noSelect ops = true) (hf : Region.free md ops listed i = true) (hr : (Region.ready md ops listed).contains i = true)
    (hQ : ∀ c a w, Q (.panic c) (a.put d v) w → Q (.panic c) a w) (hy : YieldsIf P ops (fun _ => True) oi v a)
    (h : wpAnyS P md ops Q S zs fuel (listed.setIfInBounds i true) (a.put d v) w) : wpAnyS P md ops Q S zs (fuel + 1) listed a w := by
  subst hd
  exact wpAnyS_free hi (Region.noSelect_spec hs) hQ fuel listed a w (Region.free_spec hi hf) (by simpa using hr) hy h
theorem oneS {i : Nat} {o : Oper} {fuel : Nat} {listed : Array Bool} {a : Act} {w : World} (hr : Region.ready md ops listed = [i]) (ho : ops[i]? = some o)
    (h : ∀ K' : Act → World → Prop, Shut (∀ a w, S w → (S w → wpAnyS P md ops Q S zs fuel (listed.setIfInBounds i true) a w) → K' a w) → if Region.wanted o (yielded ops a.tmps) = true then Oper.wp P o a w K' Q else K' (a.put o.dst undef) w) :
    wpAnyS P md ops Q S zs (fuel + 1) listed a w := by
  refine ⟨(fun h0 => by rw [hr] at h0; cases h0), fun j hj => ?_⟩
  rw [hr] at hj
  obtain rfl : j = i := by simpa using hj
  exact wpOp_step ho (fun K' hK => h K' (fun a w hS hW => hK a w ⟨fun _ _ => hS, hW hS⟩))
theorem oneL {i : Nat} {o : Oper} {fuel : Nat} {listed : Array Bool} {a : Act} {w : World} (hr : Region.ready md ops listed = [i]) (ho : ops[i]? = some o) (hiz : zs.contains i = true)
    (h : ∀ K' : Act → World → Prop, Shut (∀ a w, wpAnyS P md ops Q S zs fuel (listed.setIfInBounds i true) a w → K' a w) → if Region.wanted o (yielded ops a.tmps) = true then Oper.wp P o a w K' Q else K' (a.put o.dst undef) w) :
    wpAnyS P md ops Q S zs (fuel + 1) listed a w := by
  refine ⟨(fun h0 => by rw [hr] at h0; cases h0), fun j hj => ?_⟩
  rw [hr] at hj
  obtain rfl : j = i := by simpa using hj
  exact wpOp_step ho (fun K' hK => h K' (fun a w hW => hK a w ⟨(fun h0 => by rw [hiz] at h0; cases h0), hW⟩))
theorem doneS {listed : Array Bool} {a : Act} {w : World} (hr : Region.ready md ops listed = []) (h : Q .normal a w) : ∀ fuel, wpAnyS P md ops Q S zs fuel listed a w
  | 0 => ⟨hr, h⟩
  | _ + 1 => ⟨fun _ => h, by rw [hr]; simp⟩
theorem regionS {id : Nat} {a : Act} {w : World} (zs : List Nat) (hm : P.follows .mixedOrders = true) (hS : S w.drew)
    (h : S w.drew → wpAnyS P .any ops Q S zs ops.size (Array.replicate ops.size false) a w.drew) : (Code.region id ops true).wp P Q a w :=
  wp_region_any hm (wpAny_of_S _ _ _ _ (h hS))
end
end
section
open Go.RowKit Go.Sort
attribute [local go_sem] Oper.semAt_some

section
variable {P : Program} {ops : Array Oper} {Q : Exit → Act → World → Prop} {md : Region.Mode}
theorem wpIn_round {l n : Nat} {o : Oper} {a : Act} {w : World} {K : Act → World → Prop} (hd : ∀ c, o.op ≠ .defer c) (h : o.wp P a w K Q) : o.wpIn (Fence.wide.inRound l) n P a w K Q := by
  refine ⟨fun _ _ => trivial, ?_⟩
  rw [Oper.semAt_eq _ _ _ hd]
  unfold Oper.wp at h
  generalize (execOp a.eval o).run P w = r at *
  cases r with
  | ok x w' =>
    cases x with
    | value v => exact h
    | skip => exact h
    | defer d => exact h
    | enter f args => exact ⟨fun h0 => by simp [Fence.wide] at h0, CallsIn.inRound l (callsIn_wide.2 h)⟩
    | row row args => exact ⟨fun h0 => by simp [Fence.wide] at h0, fun c cs _ => let ⟨v, w'', r, s⟩ := h c cs; ⟨v, w'', r, stepsIn_wide.2 s⟩⟩
    | _ => exact h.elim
  | halt x w' => cases x <;> exact h
theorem wpAnyIn_round {l n : Nat} (hd : ∀ (i : Nat) (o : Oper), ops[i]? = some o → ∀ c, o.op ≠ .defer c) (hL : ¬ LetsOut Q) : ∀ (fuel : Nat) (listed : Array Bool) (a : Act) (w : World), wpAny P md ops Q fuel listed a w → wpAnyIn (Fence.wide.inRound l) n P md ops Q fuel listed a w
  | 0, _, _, _, h => h
  | fuel + 1, listed, a, w, h => ⟨h.1, fun i hi => by
      have h1 := h.2 i hi
      unfold wpOp at h1
      unfold wpOpIn
      cases ho : ops[i]? with
      | none => rw [ho] at h1; exact wpAnyIn_round hd hL fuel _ _ _ h1
      | some o =>
        rw [ho] at h1
        simp only at h1 ⊢
        by_cases hw : Region.wanted o (yielded ops a.tmps) = true
        · rw [if_pos hw] at h1 ⊢
          rcases h1 with h1 | h1
          · exact wpIn_round (hd i o ho) (Oper.wp_mono (fun a' w' h2 => wpAnyIn_round hd hL fuel _ _ _ h2) h1)
          · exact absurd h1.2 hL
        · rw [if_neg hw] at h1 ⊢
          exact ⟨fun _ _ => trivial, wpAnyIn_round hd hL fuel _ _ _ h1⟩⟩
def noDeferB (ops : Array Oper) : Bool := ops.toList.all fun o => match o.op with | .defer _ => false | _ => true
theorem noDefer_spec (h : noDeferB ops = true) : ∀ (i : Nat) (o : Oper), ops[i]? = some o → ∀ c, o.op ≠ .defer c := fun i o ho c e => by
  have hm : o ∈ ops.toList := by have := Array.mem_of_getElem? ho; simpa using this
  have := List.all_eq_true.1 h o hm
  rw [e] at this
  cases this
theorem region_roundS {l n id : Nat} {a : Act} {w : World} {S : World → Prop} (hd : noDeferB ops = true) (hL : ¬ LetsOut Q) (zs : List Nat) (hm : P.follows .mixedOrders = true) (hS : S w.drew)
    (h : S w.drew → wpAnyS P .any ops Q S zs ops.size (Array.replicate ops.size false) a w.drew) : (Code.region id ops true).wpIn (Fence.wide.inRound l) n P Q a w :=
  wpIn_region_any hm (wpAnyIn_round (noDefer_spec hd) hL _ _ _ _ (wpAny_of_S _ _ _ _ (h hS)))
end

def Calm (Q : Exit → Act → World → Prop) : Exit → Act → World → Prop
  | .panic _, _, _ => False
  | .outgrown, _, _ => False
  | .normal, a, w => Q .normal a w
  | .ret, a, w => Q .ret a w
  | .exit id, a, w => Q (.exit id) a w
  | .goto t, a, w => Q (.goto t) a w
theorem Calm.le {Q : Exit → Act → World → Prop} : ∀ (e : Exit) (a : Act) (w : World), Calm Q e a w → Q e a w
  | .panic _, _, _, h => h.elim
  | .outgrown, _, _, h => h.elim
  | .normal, _, _, h => h
  | .ret, _, _, h => h
  | .exit _, _, _, h => h
  | .goto _, _, _, h => h

def Turns (F : Nat → Prop) (w w' : World) : Prop := w.heap.size ≤ w'.heap.size ∧ ∀ k, k < w.heap.size → ¬ F k → w'.heap[k]? = w.heap[k]?
theorem Turns.refl (F : Nat → Prop) (w : World) : Turns F w w := ⟨Nat.le_refl _, fun _ _ _ => rfl⟩
theorem Turns.trans {F : Nat → Prop} {a b c : World} (h : Turns F a b) (k : Turns F b c) : Turns F a c := ⟨Nat.le_trans h.1 k.1, fun i hi hn => (k.2 i (Nat.lt_of_lt_of_le hi h.1) hn).trans (h.2 i hi hn)⟩
theorem Turns.cell {F : Nat → Prop} {w w' : World} (h : Turns F w w') {p : Addr} (hp : p.block < w.heap.size) (hn : ¬ F p.block) : w'.cell? p = w.cell? p := World.cell?_of_block (h.2 p.block hp hn)
theorem Turns.put {F : Nat → Prop} {n : Nat} (hF : ∀ b, n ≤ b → F b) (W : World) (l : Nat) (o o' : Obj) (hl : n ≤ l) (_ : W.heap[l]? = some o) (_ : o.isCells = false) (_ : o.isWalk = false) : Turns F W (W.putObj l o') := by
  have hg := grownBy_putObj' W l o'
  exact ⟨hg.size, fun k hk hn => hg.block k hk (fun e => hn (by injection e with e; rw [e]; exact hF l hl))⟩
theorem Turns.below {F : Nat → Prop} {w w' : World} (h : Below w.heap.size w w') : Turns F w w' := ⟨h.size, fun k hk _ => h.block k hk⟩
theorem Turns.set {F : Nat → Prop} (w : World) {p : Addr} (hp : F p.block) (u : Value) : Turns F w (w.setCell p u) := ⟨by simp, fun k _ hn => Below.heap_setCell w p u k (fun e => hn (e ▸ hp))⟩
end
section
open Go.RowKit Go.Sort Go.Shelf
attribute [local go_sem] Oper.semAt_some

theorem slBackward_any (A : Option Addr) (m C : Nat) (w : World) : Calls Tryz.prog 64 #[.slice A m C] w fun e w' => e = .returned (.func (.func 85) #[] #[.pointer (some ⟨w.heap.size, 0, none⟩)]) ∧ w' = w.alloc (.cells #[.slice A m C] 27) := by
  go_enter Tryz.func64, Tryz.ntmps64
  go_wp2
  go_ret
  exact ⟨rfl, rfl⟩

def seqB (m k : Nat) : List Nat := (List.range k).map fun j => m - 1 - j
theorem seqB_succ (m k : Nat) : seqB m (k + 1) = seqB m k ++ [m - 1 - k] := by unfold seqB; rw [List.range_succ, List.map_append]; rfl
theorem seqB_len (m k : Nat) : (seqB m k).length = k := by unfold seqB; rw [List.length_map, List.length_range]
theorem seqB_all (m : Nat) : seqB m m = (List.range m).reverse := by
  refine List.ext_getElem (by simp [seqB]) fun i h1 h2 => ?_
  simp [seqB]
def encB (L : List Nat) (i : Nat) : Array Value := #[.int .i64 (i : Int), .int .i64 ((L[i]?.getD 0 : Nat) : Int)]

set_option maxHeartbeats 4000000 in
theorem backward1_in (n l Bn ab ao C : Nat) (hn : 1 ≤ n) (L : List Nat) (F0 : Nat → Prop) (hB : ¬ F0 Bn) (hA : ¬ F0 ab) (hLl : L.length ≤ 1000000) (J Jx : List Nat → World → Prop)
    (hY : ∀ pre x W, J pre W → pre.length < L.length → YieldAt Fence.wide (n - 1) Tryz.prog l (encB L x) W fun e W' =>
      (e = .returned (.bool true) ∧ J (pre ++ [x]) W' ∧ Turns F0 W W') ∨ (e = .returned (.bool false) ∧ Jx (pre ++ [x]) W'))
    (W : World) (hBz : Bn < W.heap.size) (hAz : ab < W.heap.size) (hBs : W.cell? ⟨Bn, 0, none⟩ = some (.slice (some ⟨ab, ao, none⟩) L.length C)) (hc : ∀ j, j < L.length → W.cell? ⟨ab, ao + j, none⟩ = some (.int .i64 ((L[j]?.getD 0 : Nat) : Int))) (h0 : J [] W) :
    CallsIn Fence.wide n Tryz.prog 85 #[.func (.yield l) #[] #[], .pointer (some ⟨Bn, 0, none⟩)] W fun e W' => (∃ v, e = .returned v) ∧
      ((∃ ys, ys = (List.range L.length).reverse ∧ J ys W') ∨ (∃ pre, True ∧ Jx pre W')) := by
  refine callsIn_of_wp Tryz.func85 rfl trivial ?_ rfl
  simp only [Tryz.ntmps85, List.size_toArray, List.length_cons, List.length_nil, Nat.reduceAdd, Nat.reduceSub, Array.replicate_succ, Array.replicate_zero, List.push_toArray, List.append_toArray, List.nil_append, List.cons_append]
  have hw1 : IntKind.i64.wrap ((L.length : Int) - 1) = (L.length : Int) - 1 := IntWalk.i64_in _ (by omega)
  gi_wp2
  gi_loopw [3] (fun i wr => ∃ k : Nat, k ≤ L.length ∧ i = .int .i64 ((L.length : Int) - 1 - k) ∧ J (seqB L.length k) wr ∧ Turns F0 W wr) (fun i _ => ((intOf i) + 1).toNat)
  case atStart => exact ⟨0, Nat.zero_le _, by simp, h0, Turns.refl _ _⟩
  case round =>
    obtain ⟨k, hk, rfl, hJs, hnx⟩ := hrel
    by_cases hlt : k < L.length
    · obtain ⟨i, hi⟩ : ∃ i : Nat, i = L.length - 1 - k := ⟨_, rfl⟩
      have hii : (L.length : Int) - 1 - k = (i : Int) := by omega
      have hil : i < L.length := by omega
      rw [hii]
      obtain ⟨fn, tmps, assign, body, hy, hR⟩ := hY _ i wr hJs (by rw [seqB_len]; exact hlt)
      unfold encB at hy
      have hb' : wr.cell? ⟨Bn, 0, none⟩ = some (.slice (some ⟨ab, ao, none⟩) L.length C) := (hnx.cell (p := ⟨Bn, 0, none⟩) hBz hB).trans hBs
      have hcx := (hnx.cell (p := ⟨ab, ao + i, none⟩) hAz hA).trans (hc i hil)
      have hw2 : IntKind.i64.wrap ((i : Int) - 1) = (i : Int) - 1 := IntWalk.i64_in _ (by omega)
      have g0 : (0 : Int) ≤ (i : Int) := by omega
      have g1 : (i : Int) < (L.length : Int) := by omega
      generalize (L[i]?.getD 0) = z at *
      have HI := Lib.hid hi
      have HII := Lib.hid hii
      clear hi hii hc
      gi_wp2
      refine hR.mono ?_
      rintro e W3 (⟨rfl, hJ3, hk3⟩ | ⟨rfl, hJx3⟩)
      · have HE : Hid ((L.length : Int) - 1 - ((k + 1 : Nat) : Int) = (i : Int) - 1) := by have := HII.out; show _ = _; omega
        gi_wp2
        go_roundw
        case rel => exact ⟨k + 1, by omega, by rw [HE.out], by rw [seqB_succ, ← HI.out]; exact hJ3, hnx.trans hk3⟩
        case measure => simp [intOf] <;> omega
      · gi_wp2
        refine bodyPost_ret (results_none rfl _ _ _) rfl ?_
        exact ⟨⟨_, rfl⟩, .inr ⟨_, trivial, hJx3⟩⟩
    · obtain rfl : k = L.length := by omega
      have hii : (L.length : Int) - 1 - (L.length : Int) = -1 := by omega
      rw [hii]
      gi_wp2
      go_end0
      exact ⟨⟨_, rfl⟩, .inl ⟨_, rfl, by rw [← seqB_all]; exact hJs⟩⟩

theorem backward_stops (n Bn ab ao C : Nat) (hn : 1 ≤ n) (L : List Nat) (F0 : Nat → Prop) (hB : ¬ F0 Bn) (hA : ¬ F0 ab) (hLl : L.length ≤ 1000000) (w : World) (hBz : Bn < w.heap.size) (hAz : ab < w.heap.size)
    (hBs : w.cell? ⟨Bn, 0, none⟩ = some (.slice (some ⟨ab, ao, none⟩) L.length C)) (hc : ∀ j, j < L.length → w.cell? ⟨ab, ao + j, none⟩ = some (.int .i64 ((L[j]?.getD 0 : Nat) : Int))) :
    SeqStopsK Fence.wide n Tryz.prog 85 #[.pointer (some ⟨Bn, 0, none⟩)] (encB L) (Turns F0) (fun ys => ys = (List.range L.length).reverse) (fun _ => True) L.length w := fun l J Jx W hW _ _ hY h0 =>
  backward1_in n l Bn ab ao C hn L F0 hB hA hLl J Jx hY W (Nat.lt_of_lt_of_le hBz hW.size) (Nat.lt_of_lt_of_le hAz hW.size) ((hW.cell (p := ⟨Bn, 0, none⟩) hBz).trans hBs) (fun j hj => (hW.cell (p := ⟨ab, ao + j, none⟩) hAz).trans (hc j hj)) h0
end
section
open Go.RowKit

theorem own_form {w : World} {base : Nat} {e : TypeId} {v : Value} {n : Nat} {xs : List Value} (h : w.ownsRow base e 1 v n xs) (hn : 0 < n) :
    ∃ g cap, v = .slice (some ⟨g, 0, none⟩) n cap ∧ base ≤ g ∧ g < w.heap.size ∧ n ≤ cap ∧ w.ownsRow base e 1 (.slice (some ⟨g, 0, none⟩) n cap) n xs := by
  have h0 := h
  rcases h.2 with ⟨rfl, h0⟩ | ⟨g, cap, cur, rfl, hg, hh, hnc, _⟩
  · omega
  · refine ⟨g, cap, rfl, hg, ?_, hnc, h0⟩
    rcases Nat.lt_or_ge g w.heap.size with hlt | hge
    · exact hlt
    · rw [Array.getElem?_eq_none hge] at hh; cases hh

theorem own_cell27 {w : World} {base : Nat} {e : TypeId} {n g cap : Nat} {xs : List Value} (h : w.ownsRow base e 1 (.slice (some ⟨g, 0, none⟩) n cap) n xs) {j : Nat} (hj : j < xs.length) : w.cell? ⟨g, j, none⟩ = some xs[j] := by
  rw [h.cellAt j (by rw [← h.1]; exact hj), List.getElem?_eq_getElem hj]

set_option maxHeartbeats 400000 in
theorem jtOrder_ok (PA : Option Addr) (PC : Nat) (ps : List Int) (w : World) (hp : SlI .i64 w.heap.size w PA ps) (hpl : ps.length ≤ 1000000) (hr : JT.rootedB ps = true) :
    Calls Tryz.prog 43 #[.agg #[.slice PA ps.length PC]] w fun e w' => ∃ A c, e = .returned (.tuple #[.slice A (JT.orderF ps).length c, .int .i64 0]) ∧ Sl w'.heap.size w' A (natV (JT.orderF ps)) ∧ Below w.heap.size w w' := by
  have HP : Hid (∀ o, SlI .i64 (w.alloc o).heap.size (w.alloc o) PA ps) := fun o => (hp.alloc (Nat.le_refl _) o).more (by simp)
  have HV := Lib.hid (JT.rooted_parts hr).1
  have HR := Lib.hid hr
  clear hp hr
  go_enter Tryz.func43, Tryz.ntmps43
  go_wp2_with fail
  refine (rooted_any PA PC ps _ (HP.out _) hpl).mono ?_
  rw [HR.out]
  rintro e w1 ⟨rfl, hb1⟩
  have hc1 : w1.cell? ⟨w.heap.size, 0, none⟩ = some (.slice PA ps.length PC) := (hb1.cell (p := ⟨w.heap.size, 0, none⟩) (by simp)).trans (by go_simp)
  have HP1 := Lib.hid ((HP.out _).below hb1 (Nat.le_refl _))
  have hbw := Below.box hb1 (by simp)
  have hsz := hb1.size
  clear hb1 HP
  go_wp2_with fail
  refine (order_sl PA PC ps _ (HP1.out.more hsz) hpl HV.out).mono ?_
  rintro e w2 ⟨A, c, rfl, hs, hb2⟩
  have HS := Lib.hid hs
  have hbw2 := Below.then hbw hb2 hbw.size
  clear hs hb2 hbw
  go_wp2
  go_ret2
  exact ⟨_, _, rfl, HS.out, hbw2⟩
end
section
open Go.RowKit Go.Sort

structure BlkM (P : Nat → Prop) (R : Nat) (w : World) (al : List At) (cs : List Value) : Prop where
  row : Row w R 36 cs
  len : cs.length = al.length * 3
  el : ∀ (i : Nat) (a : At), al[i]? = some a → ∃ c0 c1 c2, cs[i * 3]? = some c0 ∧ cs[i * 3 + 1]? = some c1 ∧ cs[i * 3 + 2]? = some c2 ∧ AtP P w.heap.size w (.agg #[c0, c1, c2]) a
def BlkA (P : Nat → Prop) (R : Nat) (w : World) (al : List At) : Prop := ∃ cs, BlkM P R w al cs
section
variable {P P' : Nat → Prop} {R : Nat} {w w' : World} {al : List At}
theorem AtP.one {B : Nat} {v : Value} {a : At} (h : AtP P B w v a) : ∃ c0 c1 c2, v = .agg #[c0, c1, c2] := by
  obtain ⟨VA, VC, PA, PC, e, _⟩ := h
  exact ⟨_, _, _, e⟩
theorem BlkA.lt (h : BlkA P R w al) : R < w.heap.size := by obtain ⟨cs, h⟩ := h; exact h.row.lt
theorem BlkA.keep (h : BlkA P R w al) (hb : Below w.heap.size w w') : BlkA P R w' al := by
  obtain ⟨cs, h1, h2, h3⟩ := h
  refine ⟨cs, h1.up hb, h2, fun i a hi => ?_⟩
  obtain ⟨c0, c1, c2, q0, q1, q2, q3⟩ := h3 i a hi
  exact ⟨c0, c1, c2, q0, q1, q2, q3.keep (fun p hp _ => hb.cell hp) hb.size fun _ _ h => h⟩
theorem BlkA.weak (h : BlkA P R w al) (hP : ∀ b, b < w.heap.size → P b → P' b) : BlkA P' R w al := by
  obtain ⟨cs, h1, h2, h3⟩ := h
  refine ⟨cs, h1, h2, fun i a hi => ?_⟩
  obtain ⟨c0, c1, c2, q0, q1, q2, q3⟩ := h3 i a hi
  exact ⟨c0, c1, c2, q0, q1, q2, q3.keep (fun _ _ _ => rfl) (Nat.le_refl _) hP⟩
theorem BlkA.far (h : BlkA P R w al) {p : Addr} (hR : R ≠ p.block) (hP : ¬ P p.block) (u : Value) : BlkA P R (w.setCell p u) al := by
  obtain ⟨cs, h1, h2, h3⟩ := h
  refine ⟨cs, h1.far hR u, h2, fun i a hi => ?_⟩
  obtain ⟨c0, c1, c2, q0, q1, q2, q3⟩ := h3 i a hi
  refine ⟨c0, c1, c2, q0, q1, q2, q3.keep (fun q hq hPq => World.cell?_setCell_other w p q u (fun e => hP (e ▸ hPq))) (by simp) fun _ _ h => h⟩
theorem get3_ne {cs : List Value} {a b c : Value} {k i : Nat} (hik : i ≠ k) (j : Nat) (hj : j < 3) : (((cs.set (k * 3) a).set (k * 3 + 1) b).set (k * 3 + 2) c)[i * 3 + j]? = cs[i * 3 + j]? := by
  rw [List.getElem?_set_ne (by omega), List.getElem?_set_ne (by omega), List.getElem?_set_ne (by omega)]
theorem BlkA.set (h : BlkA P R w al) (hP : ¬ P R) {k : Nat} (hk : k < al.length) {c0 c1 c2 : Value} {a : At} (ha : AtP P w.heap.size w (.agg #[c0, c1, c2]) a) :
    BlkA P R (((w.setCell ⟨R, k * 3, none⟩ c0).setCell ⟨R, k * 3 + 1, none⟩ c1).setCell ⟨R, k * 3 + 2, none⟩ c2) (al.set k a) := by
  obtain ⟨cs, h1, h2, h3⟩ := h
  have hcell : ∀ p : Addr, P p.block → (((w.setCell ⟨R, k * 3, none⟩ c0).setCell ⟨R, k * 3 + 1, none⟩ c1).setCell ⟨R, k * 3 + 2, none⟩ c2).cell? p = w.cell? p := fun p hp => by
    have hne : ∀ j, (⟨R, j, none⟩ : Addr) ≠ p := fun j e => hP (by rw [← e] at hp; exact hp)
    rw [World.cell?_setCell_other _ _ _ _ (hne _), World.cell?_setCell_other _ _ _ _ (hne _), World.cell?_setCell_other _ _ _ _ (hne _)]
  refine ⟨((cs.set (k * 3) c0).set (k * 3 + 1) c1).set (k * 3 + 2) c2, ((h1.set _ _).set _ _).set _ _, by simp [h2], fun i b hi => ?_⟩
  have hkeep : ∀ {v : Value} {d : At}, AtP P w.heap.size w v d → AtP P (((w.setCell ⟨R, k * 3, none⟩ c0).setCell ⟨R, k * 3 + 1, none⟩ c1).setCell ⟨R, k * 3 + 2, none⟩ c2).heap.size (((w.setCell ⟨R, k * 3, none⟩ c0).setCell ⟨R, k * 3 + 1, none⟩ c1).setCell ⟨R, k * 3 + 2, none⟩ c2) v d := fun hd => hd.keep (fun p _ hp => hcell p hp) (by simp) fun _ _ h => h
  by_cases e : i = k
  · subst e
    rw [List.getElem?_set_self hk] at hi
    injection hi with hi
    subst hi
    refine ⟨c0, c1, c2, ?_, ?_, ?_, hkeep ha⟩
    · rw [List.getElem?_set_ne (by omega), List.getElem?_set_ne (by omega), List.getElem?_set_self (by omega)]
    · rw [List.getElem?_set_ne (by omega), List.getElem?_set_self (by simp; omega)]
    · rw [List.getElem?_set_self (by simp; omega)]
  · rw [List.getElem?_set_ne (fun e' => e e'.symm)] at hi
    obtain ⟨d0, d1, d2, q0, q1, q2, q3⟩ := h3 i b hi
    exact ⟨d0, d1, d2, by have := get3_ne (cs := cs) (a := c0) (b := c1) (c := c2) e 0 (by omega); exact this.trans q0, by rw [get3_ne e 1 (by omega)]; exact q1, by rw [get3_ne e 2 (by omega)]; exact q2, hkeep q3⟩
theorem BlkA.at_ (h : BlkA P R w al) {i : Nat} {a : At} (hi : al[i]? = some a) : ∃ VA VC PA PC, w.cell? ⟨R, i * 3, none⟩ = some (.slice VA a.vs.length VC) ∧ w.cell? ⟨R, i * 3 + 1, none⟩ = some (.int .i64 (a.vs.length : Nat)) ∧ w.cell? ⟨R, i * 3 + 2, none⟩ = some (.slice PA a.P.length PC) ∧
    AtP P w.heap.size w (.agg #[.slice VA a.vs.length VC, .int .i64 (a.vs.length : Nat), .slice PA a.P.length PC]) a := by
  obtain ⟨cs, h1, h2, h3⟩ := h
  obtain ⟨c0, c1, c2, q0, q1, q2, q3⟩ := h3 i a hi
  have q3' := q3
  obtain ⟨VA, VC, PA, PC, e, _⟩ := q3
  injection e with e
  have e0 : c0 = .slice VA a.vs.length VC := by have := congrArg (fun l : Array Value => l[0]?) e; simpa using this
  have e1 : c1 = .int .i64 (a.vs.length : Nat) := by have := congrArg (fun l : Array Value => l[1]?) e; simpa using this
  have e2 : c2 = .slice PA a.P.length PC := by have := congrArg (fun l : Array Value => l[2]?) e; simpa using this
  subst e0 e1 e2
  exact ⟨VA, VC, PA, PC, (h1.cell _).trans q0, (h1.cell _).trans q1, (h1.cell _).trans q2, q3'⟩
theorem BlkA.cell (h : BlkA P R w al) {i : Nat} (hi : i < al.length * 3) : ∃ u, w.cell? ⟨R, i, none⟩ = some u := by
  obtain ⟨cs, h1, h2, h3⟩ := h
  exact ⟨_, h1.cell_ (by omega)⟩
theorem BlkA.frozen (h : BlkA P R w al) (i : Nat) : w.frozen? ⟨R, i, none⟩ = false := by obtain ⟨cs, h1, h2, h3⟩ := h; exact h1.frozen i
end

theorem Sl.inP {P : Nat → Prop} {B : Nat} {w : World} {A : Option Addr} {xs : List Value} (h : ∀ W : World, (∀ p : Addr, p.block < B → P p.block → W.cell? p = w.cell? p) → Sl B W A xs) (hne : xs ≠ []) :
    ∃ b o, A = some ⟨b, o, none⟩ ∧ b < B ∧ P b ∧ ∀ i u, xs[i]? = some u → w.cell? ⟨b, o + i, none⟩ = some u := by
  obtain ⟨b, o, e, hb, hc⟩ := h w (fun _ _ _ => rfl) hne
  refine ⟨b, o, e, hb, Classical.byContradiction fun hP => ?_, hc⟩
  obtain ⟨x, t, rfl⟩ := List.exists_cons_of_ne_nil hne
  obtain ⟨u', hu'⟩ : ∃ u' : Value, u' ≠ x := by
    by_cases hx : x = .bool true
    · exact ⟨.bool false, by rw [hx]; intro h; cases h⟩
    · exact ⟨.bool true, fun h => hx h.symm⟩
  have h0 := hc 0 x rfl
  obtain ⟨b', o', e', hb', hc'⟩ := h (w.setCell ⟨b, o, none⟩ u') (fun p _ hPp => World.cell?_setCell_other _ _ _ _ (fun e => hP (by rw [← e] at hPp; exact hPp))) (by simp)
  rw [e] at e'
  injection e' with e'
  injection e' with e1 e2
  subst e1 e2
  have h1 := hc' 0 x rfl
  rw [Nat.add_zero] at h0 h1
  rw [World.cell?_setCell_same' _ _ _ (by rw [h0]; rfl)] at h1
  injection h1 with h1
  exact hu' h1
theorem SlRs.inP {P : Nat → Prop} {B : Nat} {w : World} {A : Option Addr} {X : List RL.R} (h : ∀ W : World, (∀ p : Addr, p.block < B → P p.block → W.cell? p = w.cell? p) → SlRs B W A X) (hne : X ≠ []) :
    ∃ b o, A = some ⟨b, o, none⟩ ∧ b < B ∧ P b ∧ ∀ i (hi : i < X.length), ∃ A' C', w.cell? ⟨b, o + i, none⟩ = some (.slice A' X[i].length C') ∧ X[i].length ≤ C' ∧ C' ≤ 9223372036854775807 ∧ SlR B w A' X[i] ∧ (X[i] ≠ [] → ∀ ad, A' = some ad → P ad.block) := by
  obtain ⟨b, o, e, hb, hc⟩ := h w (fun _ _ _ => rfl) hne
  have hPb : P b := Classical.byContradiction fun hP => by
    have hl : 0 < X.length := List.length_pos_iff.2 hne
    obtain ⟨A', C', q1, -⟩ := hc 0 hl
    obtain ⟨b', o', e', hb', hc'⟩ := h (w.setCell ⟨b, o, none⟩ (.bool true)) (fun p _ hPp => World.cell?_setCell_other _ _ _ _ (fun e => hP (by rw [← e] at hPp; exact hPp))) hne
    rw [e] at e'
    injection e' with e'
    injection e' with e1 e2
    subst e1 e2
    obtain ⟨A2, C2, r1, -⟩ := hc' 0 hl
    rw [Nat.add_zero] at q1 r1
    rw [World.cell?_setCell_same' _ _ _ (by rw [q1]; rfl)] at r1
    injection r1 with r1
    cases r1
  refine ⟨b, o, e, hb, hPb, fun i hi => ?_⟩
  obtain ⟨A', C', q1, q2, q3, q4⟩ := hc i hi
  refine ⟨A', C', q1, q2, q3, q4, fun hx ad had => Classical.byContradiction fun hP => ?_⟩
  have hne2 : rcells X[i] ≠ [] := fun h0 => by
    have := congrArg List.length h0
    rw [rcells_length] at this
    exact hx (List.eq_nil_of_length_eq_zero (by simp only [List.length_nil] at this; omega))
  obtain ⟨b2, o2, e2, hb2, hc2⟩ := q4 hne2
  rw [had] at e2
  injection e2 with e2
  subst e2
  obtain ⟨x, t, hx2⟩ := List.exists_cons_of_ne_nil hx
  have h0 := hc2 0 (.int .i64 x.kind) (by rw [hx2]; simp [rcells, vcells])
  rw [Nat.add_zero] at h0
  have hbb : b ≠ b2 := fun e => hP (e ▸ hPb)
  obtain ⟨b', o', e', hb', hc'⟩ := h (w.setCell ⟨b2, o2, none⟩ (.bool true)) (fun p _ hPp => World.cell?_setCell_other _ _ _ _ (fun e => hP (by rw [← e] at hPp; exact hPp))) hne
  rw [e] at e'
  injection e' with e'
  injection e' with e1 e3
  subst e1 e3
  obtain ⟨A2, C2, r1, -, -, r4⟩ := hc' i hi
  rw [World.cell?_setCell_other _ _ _ _ (fun e => hbb (by injection e with e; exact e.symm)), q1] at r1
  injection r1 with r1
  injection r1 with r1
  subst r1
  obtain ⟨b3, o3, e4, _, hc4⟩ := r4 hne2
  rw [had] at e4
  injection e4 with e4
  injection e4 with e5 e6
  subst e5 e6
  have h1 := hc4 0 (.int .i64 x.kind) (by rw [hx2]; simp [rcells, vcells])
  rw [Nat.add_zero, World.cell?_setCell_same' _ _ _ (by rw [h0]; rfl)] at h1
  injection h1 with h1
  cases h1
theorem AtP.own {P : Nat → Prop} {w w' : World} {v : Value} {a : At} {row : Option Nat} (h : AtP P w.heap.size w v a) (hg : w.grownBy w' row) (hr : ∀ r, row = some r → ∃ o : Obj, w.heap[r]? = some o ∧ o.isCells = false) : AtP P w'.heap.size w' v a := by
  obtain ⟨VA, VC, PA, PC, e, c1, c2, c3, c4, h1⟩ := h
  have hcell : ∀ p u, w.cell? p = some u → w'.cell? p = w.cell? p ∧ p.block < w.heap.size := fun p u hu => by
    have hlt : p.block < w.heap.size := by
      rcases Nat.lt_or_ge p.block w.heap.size with h | h
      · exact h
      · unfold World.cell? at hu
        rw [Array.getElem?_eq_none h] at hu
        cases hu
    refine ⟨grown_cell hg hlt fun e => ?_, hlt⟩
    obtain ⟨o, ho, hn⟩ := hr _ e.symm
    unfold World.cell? at hu
    rw [ho] at hu
    cases o <;> first | cases hu | cases hn
  refine ⟨VA, VC, PA, PC, e, c1, c2, c3, c4, fun W hag => ⟨fun hne => ?_, fun hne => ?_⟩⟩
  · obtain ⟨b, o, e1, hb, hP, hc⟩ := Sl.inP (fun W h => (h1 W h).1) hne
    refine ⟨b, o, e1, Nat.lt_of_lt_of_le hb hg.size, fun i u hu => ?_⟩
    obtain ⟨k1, k2⟩ := hcell _ _ (hc i u hu)
    exact ((hag _ (Nat.lt_of_lt_of_le hb hg.size) hP).trans k1).trans (hc i u hu)
  · obtain ⟨b, o, e1, hb, hP, hc⟩ := SlRs.inP (fun W h => (h1 W h).2) hne
    refine ⟨b, o, e1, Nat.lt_of_lt_of_le hb hg.size, fun i hi => ?_⟩
    obtain ⟨A', C', q1, q2, q3, q4, q5⟩ := hc i hi
    obtain ⟨k1, k2⟩ := hcell _ _ q1
    refine ⟨A', C', ((hag _ (Nat.lt_of_lt_of_le hb hg.size) hP).trans k1).trans q1, q2, q3, fun hn2 => ?_⟩
    have hxne : a.P[i] ≠ [] := fun h0 => hn2 (by rw [h0]; rfl)
    obtain ⟨b2, o2, e2, hb2, hc2⟩ := q4 hn2
    have hP2 := q5 hxne _ e2
    refine ⟨b2, o2, e2, Nat.lt_of_lt_of_le hb2 hg.size, fun j u hu => ?_⟩
    obtain ⟨k3, k4⟩ := hcell _ _ (hc2 j u hu)
    exact ((hag ⟨b2, o2 + j, none⟩ (Nat.lt_of_lt_of_le hb2 hg.size) hP2).trans k3).trans (hc2 j u hu)
theorem BlkA.own {P : Nat → Prop} {R : Nat} {w w' : World} {al : List At} {row : Option Nat} (h : BlkA P R w al) (hg : w.grownBy w' row) (hr : ∀ r, row = some r → ∃ o : Obj, w.heap[r]? = some o ∧ o.isCells = false) : BlkA P R w' al := by
  obtain ⟨cs, h1, h2, h3⟩ := h
  refine ⟨cs, h1.grown hg (fun e => ?_), h2, fun i a hi => ?_⟩
  · obtain ⟨o, ho, hn⟩ := hr R e.symm
    have := h1
    unfold Row at this
    rw [this] at ho
    injection ho with ho
    rw [← ho] at hn
    cases hn
  · obtain ⟨c0, c1, c2, q0, q1, q2, q3⟩ := h3 i a hi
    exact ⟨c0, c1, c2, q0, q1, q2, q3.own hg hr⟩
theorem Row.own {w w' : World} {g : Nat} {e : TypeId} {xs : List Value} {row : Option Nat} (h : Row w g e xs) (hg : w.grownBy w' row) (hr : ∀ r, row = some r → ∃ o : Obj, w.heap[r]? = some o ∧ o.isCells = false) : Row w' g e xs :=
  h.grown hg fun e => by
    obtain ⟨o, ho, hn⟩ := hr g e.symm
    have := h
    unfold Row at this
    rw [this] at ho
    injection ho with ho
    rw [← ho] at hn
    cases hn

def mkL (m : Nat) (X : Nat → At) (R : Nat → List RL.R) : List At := (List.range m).map fun i => ⟨(X i).vs, R i⟩
theorem mkL_len (m : Nat) (X : Nat → At) (R : Nat → List RL.R) : (mkL m X R).length = m := by unfold mkL; rw [List.length_map, List.length_range]
theorem mkL_get {m : Nat} {X : Nat → At} {R : Nat → List RL.R} {i : Nat} (hi : i < m) : (mkL m X R)[i]? = some ⟨(X i).vs, R i⟩ := by unfold mkL; rw [List.getElem?_map, List.getElem?_range hi]; rfl
theorem mkL_set {m : Nat} {X : Nat → At} {R R' : Nat → List RL.R} {p : Nat} {rows : List RL.R} (hp : p < m) (h1 : R' p = rows) (h2 : ∀ i, i ≠ p → R' i = R i) : (mkL m X R).set p ⟨(X p).vs, rows⟩ = mkL m X R' := by
  refine List.ext_getElem? fun i => ?_
  by_cases hi : i < m
  · by_cases e : i = p
    · subst e
      rw [List.getElem?_set_self (by rw [mkL_len]; exact hi), mkL_get hi, h1]
    · rw [List.getElem?_set_ne (fun e' => e e'.symm), mkL_get hi, mkL_get hi, h2 i e]
  · rw [List.getElem?_eq_none (by rw [List.length_set, mkL_len]; omega), List.getElem?_eq_none (by rw [mkL_len]; omega)]
theorem mkL_up {m : Nat} {X : Nat → At} {ps : List Int} {R : Nat → List RL.R} {c p : Nat} (hpar : JT.par ps c = (p : Int)) (hp : p < m) : (mkL m X R).set p ⟨(X p).vs, semiF ⟨(X p).vs, R p⟩ ⟨(X c).vs, R c⟩⟩ = mkL m X (upS X ps R c) := by
  refine mkL_set hp ?_ fun i hi => ?_
  · unfold upS; rw [hpar, if_neg (by omega)]; simp
  · unfold upS; rw [hpar, if_neg (by omega)]; simp [hi]
theorem mkL_dn {m : Nat} {X : Nat → At} {ps : List Int} {R : Nat → List RL.R} {c p : Nat} (hpar : JT.par ps c = (p : Int)) (hc : c < m) : (mkL m X R).set c ⟨(X c).vs, semiF ⟨(X c).vs, R c⟩ ⟨(X p).vs, R p⟩⟩ = mkL m X (dnS X ps c R) := by
  refine mkL_set hc ?_ fun i hi => ?_
  · unfold dnS; rw [hpar, if_neg (by omega)]; simp
  · unfold dnS; rw [hpar, if_neg (by omega)]; simp [hi]
theorem up_root {X : Nat → At} {ps : List Int} {R : Nat → List RL.R} {c : Nat} (h : JT.par ps c < 0) : upS X ps R c = R := by unfold upS; rw [if_pos h]
theorem dn_root {X : Nat → At} {ps : List Int} {R : Nat → List RL.R} {c : Nat} (h : JT.par ps c < 0) : dnS X ps c R = R := by unfold dnS; rw [if_pos h]
def GdR (m : Nat) (X : Nat → At) (R : Nat → List RL.R) : Prop := ∀ i, i < m → Gd ⟨(X i).vs, R i⟩
theorem GdR.up {m : Nat} {X : Nat → At} {ps : List Int} {R : Nat → List RL.R} (h : GdR m X R) (c : Nat) : GdR m X (upS X ps R c) := fun i hi => by
  unfold upS
  split
  · exact h i hi
  · simp only
    split
    · exact Gd.semi (a := ⟨(X i).vs, R i⟩) (h i hi)
    · exact h i hi
theorem GdR.dn {m : Nat} {X : Nat → At} {ps : List Int} {R : Nat → List RL.R} (h : GdR m X R) (c : Nat) : GdR m X (dnS X ps c R) := fun i hi => by
  unfold dnS
  split
  · exact h i hi
  · simp only
    split
    · rename_i e; subst e; exact Gd.semi (a := ⟨(X i).vs, R i⟩) (h i hi)
    · exact h i hi
end
section
open Go.RowKit Go.Sort

def RefV (w : World) (v : Value) (vs : List Int) (P : List RL.R) : Prop := ∃ VA VC PA PC, v = .agg #[.slice VA vs.length VC, .slice PA P.length PC] ∧ vs.length ≤ VC ∧ VC ≤ 9223372036854775807 ∧ P.length ≤ PC ∧ PC ≤ 9223372036854775807 ∧ SlI .i64 w.heap.size w VA vs ∧ SlRs w.heap.size w PA P
theorem RefV.up {w w' : World} {v : Value} {vs : List Int} {P : List RL.R} (h : RefV w v vs P) (hb : Below w.heap.size w w') : RefV w' v vs P := by
  obtain ⟨VA, VC, PA, PC, e, c1, c2, c3, c4, h1, h2⟩ := h
  exact ⟨VA, VC, PA, PC, e, c1, c2, c3, c4, (Sl.below h1 hb (Nat.le_refl _)).more hb.size, h2.upB hb⟩
def Of36 (a : At) (w : World) (e : Ending) (w' : World) : Prop := ∃ v, e = .returned v ∧ RefV w' v (a.vs.map Int.ofNat) a.P ∧ Below w.heap.size w w'

set_option maxHeartbeats 8000000 in
theorem l36Of_any (va : Value) (a : At) (w : World) (ha : AtV w va a) (ga : Gd a) :
    Calls Tryz.prog 16 #[va] w (Of36 a w) := by
  obtain ⟨VA, VC, PA, PC, rfl, c1, c2, c3, c4, h1, h2⟩ := ha
  obtain ⟨W0, hW0⟩ : ∃ W0, W0 = (w.alloc (.cells #[.slice VA a.vs.length VC, .int .i64 (a.vs.length : Nat), .slice PA a.P.length PC] 36)).alloc (.cells #[.slice none 0 0, .slice none 0 0] 45) := ⟨_, rfl⟩
  have hx0 : Ext w W0 := by rw [hW0]; exact ((Ext.refl w).alloc _).alloc _
  have hra : Row W0 w.heap.size 36 [.slice VA a.vs.length VC, .int .i64 (a.vs.length : Nat), .slice PA a.P.length PC] := by rw [hW0]; exact (Row.new w 36 _).alloc _
  have hro : Row W0 (w.heap.size + 1) 45 [.slice none 0 0, .slice none 0 0] := by
    have h := Row.new (w.alloc (.cells #[.slice VA a.vs.length VC, .int .i64 (a.vs.length : Nat), .slice PA a.P.length PC] 36)) 45 [.slice none 0 0, .slice none 0 0]
    rw [World.size_alloc] at h
    rw [hW0]; exact h
  have hlX : a.P.length ≤ 1000000 := by have := ga.many; omega
  have HRW := Lib.hid (rlRows_any (a.vs.length : Nat) PA PC a.P W0.drew (show SlRs W0.drew.heap.size W0.drew PA a.P from (h2.upB hx0.below : SlRs W0.heap.size W0 PA a.P)) ga.rsOk hlX)
  have HLR := Lib.hid (fun (A : Option Addr) (C : Nat) (W : World) (h : SlRs W.heap.size W A a.P) => l7Rows_any A C a.P W h hlX ga.rsOk)
  have HX0 := Lib.hid hx0
  have HRO := Lib.hid hro
  have HRA := Lib.hid hra
  have HVS : Hid (a.vs.length ≤ VC ∧ VC ≤ 9223372036854775807 ∧ SlI .i64 w.heap.size w VA (a.vs.map Int.ofNat)) := ⟨c1, c2, h1⟩
  have HZ : Hid (w.heap.size + 1 < W0.heap.size) := hro.lt
  have HLV : Hid ((a.vs.map Int.ofNat).length = a.vs.length) := List.length_map ..
  have e0 : W0.cell? ⟨w.heap.size, 0, none⟩ = some (.slice VA a.vs.length VC) := hra.cell 0
  have e1 : W0.cell? ⟨w.heap.size, 1, none⟩ = some (.int .i64 (a.vs.length : Nat)) := hra.cell 1
  have e2 : W0.cell? ⟨w.heap.size, 2, none⟩ = some (.slice PA a.P.length PC) := hra.cell 2
  have e3 := hra.lt
  have o0 : W0.cell? ⟨w.heap.size + 1, 0, none⟩ = some (.slice none 0 0) := hro.cell 0
  have o1 : W0.cell? ⟨w.heap.size + 1, 1, none⟩ = some (.slice none 0 0) := hro.cell 1
  have o2 := hro.lt
  clear hx0 hro hra h1 h2 ga c1 c2 c3 c4 hlX
  go_enter Tryz.func16, Tryz.ntmps16
  go_upto_region 1 with (fail)
  rw [← hW0]
  clear hW0
  refine regionZ (S := (fun w' => (w'.cell? ⟨w.heap.size, 0, none⟩ = some (.slice VA a.vs.length VC) ∧ w'.cell? ⟨w.heap.size, 1, none⟩ = some (.int .i64 (a.vs.length : Nat)) ∧ w'.cell? ⟨w.heap.size, 2, none⟩ = some (.slice PA a.P.length PC)) ∧ w'.cell? ⟨w.heap.size + 1, 0, none⟩ = some (.slice none 0 0) ∧ w'.cell? ⟨w.heap.size + 1, 1, none⟩ = some (.slice none 0 0))) 7 (by kernel_rfl) ⟨⟨e0, e1, e2⟩, o0, o1⟩ (fun hHeld => ?_)
  refine takeZ (i := 0) (v := ?_) (some 3) rfl rfl (by kernel_rfl) (by decide) (by kernel_rfl) (by kernel_rfl) (by kernel_rfl) (by kernel_rfl) (fun _ _ _ h => h) (Or.inl ⟨by rfl, ?_⟩) (by assumption) ?_
  rotate_left 1
  · (intro w0 hSw; (try dsimp only at hSw); go_simp; try (with_reducible rfl))
  try simp only [Act.put, List.setIfInBounds_toArray, List.set_cons_succ, List.set_cons_zero]
  refine takeZ (i := 1) (v := ?_) (some 4) rfl rfl (by kernel_rfl) (by decide) (by kernel_rfl) (by kernel_rfl) (by kernel_rfl) (by kernel_rfl) (fun _ _ _ h => h) (Or.inl ⟨by rfl, ?_⟩) (by assumption) ?_
  rotate_left 1
  · (intro w0 hSw; (try dsimp only at hSw); go_simp; try (with_reducible rfl))
  try simp only [Act.put, List.setIfInBounds_toArray, List.set_cons_succ, List.set_cons_zero]
  refine takeZ (i := 2) (v := ?_) (some 5) rfl rfl (by kernel_rfl) (by decide) (by kernel_rfl) (by kernel_rfl) (by kernel_rfl) (by kernel_rfl) (fun _ _ _ h => h) (Or.inl ⟨by rfl, ?_⟩) (by assumption) ?_
  rotate_left 1
  · (intro w0 hSw; (try dsimp only at hSw); go_simp; try (with_reducible rfl))
  try simp only [Act.put, List.setIfInBounds_toArray, List.set_cons_succ, List.set_cons_zero]
  refine takeZ (i := 3) (v := ?_) (some 6) rfl rfl (by kernel_rfl) (by decide) (by kernel_rfl) (by kernel_rfl) (by kernel_rfl) (by kernel_rfl) (fun _ _ _ h => h) (Or.inl ⟨by rfl, ?_⟩) (by assumption) ?_
  rotate_left 1
  · (intro w0 hSw; (try dsimp only at hSw); go_simp; try (with_reducible rfl))
  try simp only [Act.put, List.setIfInBounds_toArray, List.set_cons_succ, List.set_cons_zero]
  refine oneZ (i := 4) (by kernel_rfl) rfl (by decide) (fun K hK => ?_)
  go_simp
  refine HRW.out.mono ?_
  rintro e V1 ⟨g, rfl, hmr, hb⟩
  have hbv : Below W0.heap.size W0 V1 := Below.undrew hb
  have HV1 := Lib.hid hbv
  have HSL := Lib.hid hmr.sl
  have hv := fun (p : Addr) (hp : p.block < W0.heap.size) => hbv.cell (p := p) hp
  have KEEP := (⟨⟨(hv ⟨w.heap.size, 0, none⟩ e3).trans e0, (hv ⟨w.heap.size, 1, none⟩ e3).trans e1, (hv ⟨w.heap.size, 2, none⟩ e3).trans e2⟩, (hv ⟨w.heap.size + 1, 0, none⟩ o2).trans o0, (hv ⟨w.heap.size + 1, 1, none⟩ o2).trans o1⟩ : (_ ∧ _ ∧ _) ∧ _ ∧ _)
  clear hmr hb hbv hv
  go_wp2_with fail
  refine hK.out _ _ KEEP (fun hHeld => ?_)
  clear hK K
  try simp only [Act.put, List.setIfInBounds_toArray, List.set_cons_succ, List.set_cons_zero]
  refine oneZ (i := 5) (by kernel_rfl) rfl (by decide) (fun K hK => ?_)
  go_simp
  refine (HLR.out _ _ V1 HSL.out).mono ?_
  rintro e V2 ⟨v, rfl, hown, hb⟩
  have HOWN := Lib.hid hown
  obtain ⟨QA, QC, rfl, q1, q2, -⟩ := hown.sl
  have HQ := Lib.hid (And.intro q1 q2)
  have HV2 : Hid (Below W0.heap.size W0 V2) := Below.then HV1.out hb HV1.out.size
  have HV12 : Hid (W0.heap.size ≤ V1.heap.size) := HV1.out.size
  have hv := fun (p : Addr) (hp : p.block < W0.heap.size) => HV2.out.cell (p := p) hp
  have KEEP2 := (⟨⟨(hv ⟨w.heap.size, 0, none⟩ e3).trans e0, (hv ⟨w.heap.size, 1, none⟩ e3).trans e1, (hv ⟨w.heap.size, 2, none⟩ e3).trans e2⟩, (hv ⟨w.heap.size + 1, 0, none⟩ o2).trans o0, (hv ⟨w.heap.size + 1, 1, none⟩ o2).trans o1⟩ : (_ ∧ _ ∧ _) ∧ _ ∧ _)
  have HRO2 := Lib.hid (HRO.out.up HV2.out)
  have m0 := HRO2.out.frozen 0
  have m1 := HRO2.out.frozen 1
  have m2 := HRO2.out.lt
  have n0 := KEEP2.2.1
  have n1 := KEEP2.2.2
  clear hown q1 q2 hb hv
  go_wp2_with fail
  refine hK.out _ _ KEEP2 (fun hHeld => ?_)
  clear hK K
  try simp only [Act.put, List.setIfInBounds_toArray, List.set_cons_succ, List.set_cons_zero]
  refine takeZ (i := 6) (v := ?_) (some 9) rfl rfl (by kernel_rfl) (by decide) (by kernel_rfl) (by kernel_rfl) (by kernel_rfl) (by kernel_rfl) (fun _ _ _ h => h) (Or.inl ⟨by rfl, ?_⟩) (by assumption) ?_
  rotate_left 1
  · (intro w0 hSw; (try dsimp only at hSw); go_simp; try (with_reducible rfl))
  try simp only [Act.put, List.setIfInBounds_toArray, List.set_cons_succ, List.set_cons_zero]
  refine lastZ (by kernel_rfl) rfl (by kernel_rfl) (fun K hK => ?_)
  go_simp
  go_wp2_with fail
  refine hK.out _ _ ?_
  clear hK K
  try simp only [Act.put, List.setIfInBounds_toArray, List.set_cons_succ, List.set_cons_zero]
  obtain ⟨V6, hV6⟩ : ∃ V', V' = (V2.setCell ⟨w.heap.size + 1, 0, none⟩ (.slice VA a.vs.length VC)).setCell ⟨w.heap.size + 1, 1, none⟩ (.slice QA a.P.length QC) := ⟨_, rfl⟩
  have q : Row V6 (w.heap.size + 1) 45 [.slice VA a.vs.length VC, .slice QA a.P.length QC] := by rw [hV6]; exact (HRO2.out.set 0 _).set 1 _
  have f0 := q.cell 0
  have f1 := q.cell 1
  have hz := HZ.out
  have hz2 := HV12.out
  have hown6 : OwnRs V6 V1.heap.size 103 (.slice QA a.P.length QC) a.P := by
    rw [hV6]
    exact (HOWN.out.far HRO2.out (by omega) _).far (HRO2.out.set 0 _) (by omega) _
  have hb6 : Below w.heap.size w V6 := by
    rw [hV6]
    exact ((Below.then HX0.out.below HV2.out HX0.out.size).setCell (by show w.heap.size ≤ w.heap.size + 1; omega) _).setCell (by show w.heap.size ≤ w.heap.size + 1; omega) _
  have HB6 := Lib.hid hb6
  have HO6 := Lib.hid hown6
  clear hz hz2 hb6 hown6 m0 m1 m2 n0 n1 KEEP KEEP2 hHeld q
  rw [← hV6]
  clear hV6
  go_wp2_with fail
  refine bodyPost_ret (v := .agg #[.slice VA a.vs.length VC, .slice QA a.P.length QC]) (by simp [results, Tryz.results16, go_sem, f0, f1]) rfl ?_
  obtain ⟨A', C', e, -, -, hs⟩ := HO6.out.sl
  injection e with e e2 e3
  subst e
  exact ⟨_, rfl, ⟨VA, VC, QA, QC, by rw [HLV.out], by rw [HLV.out]; exact HVS.out.1, HVS.out.2.1, HQ.out.1, HQ.out.2, (Sl.below HVS.out.2.2 HB6.out (Nat.le_refl _)).more HB6.out.size, hs⟩, HB6.out⟩
end
section
open Go.RowKit Go.Sort

def Same36 (b : Bool) (w : World) (e : Ending) (w' : World) : Prop := e = .returned (.bool b) ∧ Below w.heap.size w w'

set_option maxHeartbeats 8000000 in
theorem r36Same_any (vx vy : Value) (us vs : List Int) (P Q : List RL.R) (w : World) (hx : RefV w vx us P) (hy : RefV w vy vs Q) (hul : us.length ≤ 1000000) (hvl : vs.length ≤ 1000000) (hPl : P.length ≤ 1000000) (hQl : Q.length ≤ 1000000) (hPo : RsOk P) (hQo : RsOk Q) :
    Calls Tryz.prog 21 #[vx, vy] w (Same36 (decide (us = vs ∧ P = Q)) w) := by
  obtain ⟨VA, VC, PA, PC, rfl, -, -, -, -, h1, h2⟩ := hx
  obtain ⟨UA, UC, QA, QC, rfl, -, -, -, -, h3, h4⟩ := hy
  obtain ⟨W0, hW0⟩ : ∃ W0, W0 = (w.alloc (.cells #[.slice VA us.length VC, .slice PA P.length PC] 45)).alloc (.cells #[.slice UA vs.length UC, .slice QA Q.length QC] 45) := ⟨_, rfl⟩
  have hx0 : Ext w W0 := by rw [hW0]; exact ((Ext.refl w).alloc _).alloc _
  have hra : Row W0 w.heap.size 45 [.slice VA us.length VC, .slice PA P.length PC] := by rw [hW0]; exact (Row.new w 45 _).alloc _
  have hrb : Row W0 (w.heap.size + 1) 45 [.slice UA vs.length UC, .slice QA Q.length QC] := by
    have h := Row.new (w.alloc (.cells #[.slice VA us.length VC, .slice PA P.length PC] 45)) 45 [.slice UA vs.length UC, .slice QA Q.length QC]
    rw [World.size_alloc] at h
    rw [hW0]; exact h
  have HV := Lib.hid (fun W (h : Below w.heap.size w W) => ((Sl.below h1 h (Nat.le_refl _)).more h.size : SlI .i64 W.heap.size W VA us))
  have HU := Lib.hid (fun W (h : Below w.heap.size w W) => ((Sl.below h3 h (Nat.le_refl _)).more h.size : SlI .i64 W.heap.size W UA vs))
  have HSM := Lib.hid (fun W (h : Below w.heap.size w W) => r7Same_any PA QA PC QC P Q W (h2.upB h) (h4.upB h) hPl hQl hPo hQo)
  have HX0 := Lib.hid hx0
  have HRA := Lib.hid hra
  have HRB := Lib.hid hrb
  have hup : ∀ W, Below W0.heap.size W0 W → (W.cell? ⟨w.heap.size, 0, none⟩ = some (.slice VA us.length VC) ∧ W.cell? ⟨w.heap.size, 1, none⟩ = some (.slice PA P.length PC) ∧ w.heap.size < W.heap.size) ∧ W.cell? ⟨w.heap.size + 1, 0, none⟩ = some (.slice UA vs.length UC) ∧ W.cell? ⟨w.heap.size + 1, 1, none⟩ = some (.slice QA Q.length QC) ∧ w.heap.size + 1 < W.heap.size := fun W h => ⟨⟨(hra.up h).cell 0, (hra.up h).cell 1, (hra.up h).lt⟩, (hrb.up h).cell 0, (hrb.up h).cell 1, (hrb.up h).lt⟩
  have HUP := Lib.hid hup
  obtain ⟨⟨e0, e1, e2⟩, e3, e4, e5⟩ := hup W0 (Below.refl _ _)
  clear hx0 hra hrb h1 h2 h3 h4 hup hPl hQl hPo hQo
  by_cases hl : us.length = vs.length
  rotate_left
  · have hnb : ((us.length : Int) != (vs.length : Int)) = true := by rw [bne_iff_ne]; omega
    have HF : Hid (decide (us = vs ∧ P = Q) = false) := decide_eq_false fun h => hl (by rw [h.1])
    clear hl
    go_enter Tryz.func21, Tryz.ntmps21
    go_upto_region 1 with (fail)
    rw [← hW0]
    clear hW0
    go_wp2_with fail
    exact bodyPost_ret (v := .bool false) (by simp [results, Tryz.results21, go_sem]) rfl ⟨by rw [HF.out], HX0.out.below⟩
  have hnb : ((us.length : Int) != (vs.length : Int)) = false := by rw [hl]; simp
  have HLL := Lib.hid hl
  clear hl
  go_enter Tryz.func21, Tryz.ntmps21
  go_upto_region 1 with (fail)
  rw [← hW0]
  clear hW0
  go_wp2_with fail
  clear hnb e0 e1 e2 e3 e4 e5
  go_loopw [5] (fun c wx => ∃ i : Nat, i ≤ us.length ∧ c = .int .i64 i ∧ (∀ j (h : j < us.length), j < i → us[j] = vs[j]'(by rw [← HLL.out]; exact h)) ∧ Ext W0 wx) (fun c _ => us.length - (intOf c).toNat)
  case atStart => exact ⟨0, Nat.zero_le _, rfl, fun j _ h => absurd h (by omega), Ext.refl _⟩
  case round =>
    obtain ⟨i, hi, rfl, hall, hx⟩ := hrel
    have HALL := Lib.hid hall
    have HXI := Lib.hid hx
    have HBW : Hid (Below w.heap.size w wr) := (HX0.out.trans hx).below
    obtain ⟨⟨e0, e1, e2⟩, e3, e4, e5⟩ := HUP.out wr hx.below
    clear hall hx
    by_cases hil : i < us.length
    · have g1 : (0 : Int) ≤ (i : Int) := by omega
      have g2 : (i : Int) < (us.length : Int) := by omega
      have g3 : (i : Int) < (vs.length : Int) := by have := HLL.out; omega
      have hw1 : IntKind.i64.wrap ((i : Int) + 1) = ((i + 1 : Nat) : Int) := by rw [IntWalk.i64_in _ (by omega)]; omega
      have hiv : i < vs.length := by have := HLL.out; omega
      obtain ⟨vb, vo, hva, hvb, va⟩ := slI_at (HV.out wr HBW.out) hil
      obtain ⟨ub, uo, hua, hub, ua⟩ := slI_at (HU.out wr HBW.out) hiv
      subst hva hua
      have HN : Hid (us[i] ≠ vs[i] → decide (us = vs ∧ P = Q) = false) := fun hne => decide_eq_false fun h => hne (by have := h.1; subst this; rfl)
      have HY : Hid (us[i] = vs[i] → ∀ j (h : j < us.length), j < i + 1 → us[j] = vs[j]'(by rw [← HLL.out]; exact h)) := fun he j hj hlt => by
        rcases Nat.lt_or_ge j i with h | h
        · exact HALL.out j hj h
        · obtain rfl : j = i := by omega
          exact he
      generalize us[i] = a at *
      generalize vs[i] = b at *
      by_cases hab : a = b
      · have hnb : (a != b) = false := by simp [hab]
        have HY2 := Lib.hid (HY.out hab)
        clear hab HN HY
        go_wp2
        go_quiet (fail)
        go_wp2
        go_roundw
        case rel => exact ⟨i + 1, hil, by go_num, HY2.out, HXI.out.drewN _⟩
        case measure => simp [intOf]; omega
      · have hnb : (a != b) = true := by simpa using hab
        have HN2 := Lib.hid (HN.out hab)
        clear hab HN HY
        go_wp2
        go_quiet (fail)
        go_wp2
        exact bodyPost_ret (v := .bool false) (by simp [results, Tryz.results21, go_sem]) rfl ⟨by rw [HN2.out], Below.then HBW.out ((Ext.refl wr).drewN _).below HBW.out.size⟩
    · obtain rfl : i = us.length := by omega
      have r1 : ¬ (us.length : Int) < (us.length : Int) := by omega
      have HE : Hid (us = vs) := List.ext_getElem HLL.out fun j h1 h2 => HALL.out j h1 h1
      have HS := Lib.hid (HSM.out wr HBW.out)
      have HD : Hid (decide (us = vs ∧ P = Q) = decide (P = Q)) := decide_eq_decide.2 ⟨fun h => h.2, fun h => ⟨HE.out, h⟩⟩
      clear HALL
      go_wp2_with fail
      refine HS.out.mono ?_
      rintro e w5 ⟨rfl, hx5⟩
      have HB5 := Lib.hid (Below.then HBW.out hx5.below HBW.out.size)
      clear hx5 HS
      go_wp2_with fail
      exact bodyPost_ret (v := .bool (decide (P = Q))) (by simp [results, Tryz.results21, go_sem]) rfl ⟨by rw [HD.out], HB5.out⟩
end
end Go.Proofs.YthgaflmldbgbnaaGreatDoor

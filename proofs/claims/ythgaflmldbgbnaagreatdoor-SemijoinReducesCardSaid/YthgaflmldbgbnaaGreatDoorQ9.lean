/- Parts of the proof, merged: W6, G17, G33, G27, E10, G18, G19, W9. -/
import Derived.Test.YthgaflmldbgbnaaGreatDoorQ3
import Derived.Test.YthgaflmldbgbnaaGreatDoorQ8
import Derived.Test.YthgaflmldbgbnaaGreatDoorQ7
import Derived.Test.YthgaflmldbgbnaaGreatDoorQ4
import Derived.Test.YthgaflmldbgbnaaGreatDoorQ5
import Derived.RangeFuncNested
import Derived.RangeFuncBound
import Derived.RangeFuncCalls
import Derived.RangeFuncLeaves
import Derived.RangeFuncWrites
import Derived.Shelf.Abstract
import Derived.OwnWalkIn
import Derived.TacticsInMore
import Derived.LoopNIn
import Derived.LoopIn
import Derived.Deep.LoopGhost

set_option maxRecDepth 100000
namespace Go.Proofs.YthgaflmldbgbnaaGreatDoor
section
open Go.RowKit

set_option maxHeartbeats 1000000 in
theorem jtCheck_any (N : Int) (EA PA : Option Addr) (EC PC : Nat) (es : List Nat) (ps : List Int) (w : World)
   (he : SlN .u32 w.heap.size w EA es) (hu : U32s es) (hp : SlI .i64 w.heap.size w PA ps) (hel : es.length ≤ 1000000) (hpl : ps.length ≤ 1000000) :
    Calls Tryz.prog 63 #[.agg #[.int .i64 N, .slice EA es.length EC], .agg #[.slice PA ps.length PC]] w fun e w' => e = .returned (.int .i64 (JT.chkF N es ps)) ∧ Below w.heap.size w w' := by
  have he2 : ∀ o1 o2, SlN .u32 ((w.alloc o1).alloc o2).heap.size ((w.alloc o1).alloc o2) EA es := fun o1 o2 => ((he.alloc (Nat.le_refl _) o1).alloc (by simp) o2).more (by simp; omega)
  have hp2 : ∀ o1 o2, SlI .i64 ((w.alloc o1).alloc o2).heap.size ((w.alloc o1).alloc o2) PA ps := fun o1 o2 => ((hp.alloc (Nat.le_refl _) o1).alloc (by simp) o2).more (by simp; omega)
  have HE := Lib.hid he2
  have HP := Lib.hid hp2
  have HU := Lib.hid hu
  clear he2 hp2 hu
  go_enter Tryz.func63, Tryz.ntmps63
  go_wp2_with fail
  refine (hgCheck_any N EA EC es _ (HE.out _ _) HU.out hel).mono ?_
  rintro e w1 ⟨rfl, hb1⟩
  have hc1 : w1.cell? ⟨w.heap.size, 0, none⟩ = some (.int .i64 N) := (hb1.cell (p := ⟨w.heap.size, 0, none⟩) (by simp; omega)).trans (by go_simp)
  have hc2 : w1.cell? ⟨w.heap.size, 1, none⟩ = some (.slice EA es.length EC) := (hb1.cell (p := ⟨w.heap.size, 1, none⟩) (by simp; omega)).trans (by go_simp)
  have hc3 : w1.cell? ⟨w.heap.size + 1, 0, none⟩ = some (.slice PA ps.length PC) := (hb1.cell (p := ⟨w.heap.size + 1, 0, none⟩) (by simp)).trans (by go_simp)
  have hbw : Below w.heap.size w w1 := Below.box2 hb1 (by simp; omega)
  have hsz := hb1.size
  simp at hsz
  clear hb1
  by_cases h1 : JT.hgCheckF N es = 0
  rotate_left
  · have hs : (JT.hgCheckF N es != 0) = true := by simpa using h1
    have HF := Lib.hid (JT.chkF_hg (ps := ps) h1)
    clear h1
    generalize JT.hgCheckF N es = q at *
    go_wp2
    go_ret
    exact ⟨ret_int HF.out.symm, hbw⟩
  rw [h1]
  by_cases h2 : ps.length = es.length
  rotate_left
  · have hs : ((ps.length : Int) != (es.length : Int)) = true := by simp; omega
    have HF := Lib.hid (JT.chkF_len h1 h2)
    clear h1 h2
    go_wp2
    go_ret
    exact ⟨ret_int HF.out.symm, hbw⟩
  have hs : ((ps.length : Int) != (es.length : Int)) = false := by simp; omega
  have H1 := Lib.hid h1
  have H2 := Lib.hid h2
  clear h1 h2
  have hep := he.below hbw (Nat.le_refl _)
  have hpp := hp.below hbw (Nat.le_refl _)
  have HE1 := Lib.hid hep
  have HP1 := Lib.hid hpp
  clear he hp hep hpp HE HP
  go_wp2_with fail
  refine (rooted_any PA PC ps _ (HP1.out.more (by omega)) hpl).mono ?_
  rintro e w2 ⟨rfl, hb2⟩
  have hd1 := (hb2.cell (p := ⟨w.heap.size, 0, none⟩) (by show w.heap.size < _; omega)).trans hc1
  have hd2 := (hb2.cell (p := ⟨w.heap.size, 1, none⟩) (by show w.heap.size < _; omega)).trans hc2
  have hd3 := (hb2.cell (p := ⟨w.heap.size + 1, 0, none⟩) (by show w.heap.size + 1 < _; omega)).trans hc3
  have hbw2 : Below w.heap.size w w2 := Below.then hbw hb2 hbw.size
  have HE2 := Lib.hid (HE1.out.below hb2 hbw.size)
  have HP2 := Lib.hid (HP1.out.below hb2 hbw.size)
  have hsz2 := hb2.size
  clear hb2 hbw hc1 hc2 hc3 HE1 HP1
  by_cases h3 : JT.rootedB ps = true
  rotate_left
  · have h4 : JT.rootedB ps = false := by simpa using h3
    have HF := Lib.hid (JT.chkF_root H1.out H2.out h4)
    rw [h4]
    clear h3 h4
    go_wp2
    go_ret
    exact ⟨ret_int HF.out.symm, hbw2⟩
  rw [h3]
  have H3 := Lib.hid h3
  clear h3
  go_wp2
  go_loopw [6, 28] (fun s i wr => ∃ k : Nat, k ≤ es.length ∧ i = .int .i64 k ∧ s = .int .u32 (JT.seenTo es ps k : Nat) ∧ (∀ i, i < k → JT.seenTo es ps i &&& JT.topF es ps i = 0) ∧ Below w.heap.size w wr ∧ w.heap.size + 2 ≤ wr.heap.size ∧ SlN .u32 w.heap.size wr EA es ∧ SlI .i64 w.heap.size wr PA ps ∧ wr.cell? ⟨w.heap.size, 0, none⟩ = some (.int .i64 N) ∧ wr.cell? ⟨w.heap.size, 1, none⟩ = some (.slice EA es.length EC) ∧ wr.cell? ⟨w.heap.size + 1, 0, none⟩ = some (.slice PA ps.length PC)) (fun _ i _ => es.length - (intOf i).toNat)
  case atStart => exact ⟨0, Nat.zero_le _, rfl, rfl, by omega, hbw2, by omega, HE2.out, HP2.out, hd1, hd2, hd3⟩
  case round =>
    clear hbw2 HE2 HP2 hd1 hd2 hd3
    obtain ⟨k, hk, rfl, rfl, hall, hb, hs4, hsE, hsP, hc1, hc2, hc3⟩ := hrel
    have HA := Lib.hid hall
    have HSP := Lib.hid hsP
    have HSE := Lib.hid hsE
    clear hall hsP hsE
    by_cases hlt : k < es.length
    · obtain ⟨b, o, rfl, hbb, hc⟩ := slN_at HSE.out hlt
      have hu32 : JT.U32 es := HU.out
      have hek := hu32.get k
      have hsl := JT.sepF_le es ps k
      have hst := JT.seenTo_lt (ps := ps) hu32 k
      have htt := JT.topF_lt (ps := ps) hu32 k
      have htop : JT.topF es ps k = JT.dif (es[k]?.getD 0) (JT.sepF es ps (k : Int)) := rfl
      have hge : es[k]?.getD 0 = es[k] := by simp [hlt]
      rw [hge] at hek hsl htop
      have hseen : JT.seenTo es ps (k + 1) = JT.seenTo es ps k ||| JT.topF es ps k := rfl
      generalize hekk : es[k] = ek at *
      generalize hsp : JT.sepF es ps (k : Int) = sp at *
      generalize htp : JT.topF es ps k = tp at *
      generalize hsn : JT.seenTo es ps k = sn at *
      have hb1 : bits .andNot .u32 (ek : Int) (sp : Int) = (tp : Int) := by rw [htop]; exact u32_andNot_nat ek sp (by omega) (by omega)
      have hb2 : bits .and .u32 (sn : Int) (tp : Int) = ((sn &&& tp : Nat) : Int) := u32_and_nat sn tp (by omega) (by omega)
      have hb3 : bits .or .u32 (sn : Int) (tp : Int) = ((sn ||| tp : Nat) : Int) := u32_or_nat sn tp (by omega) (by omega)
      have HSEEN := Lib.hid hseen
      have HSPK := Lib.hid hsp
      have HTP := Lib.hid htp
      have HSN := Lib.hid hsn
      clear hge hekk hsp htp hsn htop hseen hsl hu32
      by_cases h0 : sn &&& tp = 0
      · have H0 := Lib.hid h0
        rw [h0] at hb2
        clear h0
        go_wp2_with fail
        refine (sep_any N _ PA EC PC es ps k _ (HSE.out.more (by omega)) HU.out (HSP.out.more (by omega)) hel hpl).mono ?_
        rw [HSPK.out]
        rintro e w3 ⟨rfl, hb3'⟩
        have hd1 := (hb3'.cell (p := ⟨w.heap.size, 0, none⟩) (by show w.heap.size < _; omega)).trans hc1
        have hd2 := (hb3'.cell (p := ⟨w.heap.size, 1, none⟩) (by show w.heap.size < _; omega)).trans hc2
        have hd3 := (hb3'.cell (p := ⟨w.heap.size + 1, 0, none⟩) (by show w.heap.size + 1 < _; omega)).trans hc3
        have hbw3 : Below w.heap.size w w3 := Below.then hb hb3' hb.size
        have HE3 := Lib.hid (HSE.out.below hb3' hb.size)
        have HP3 := Lib.hid (HSP.out.below hb3' hb.size)
        have hsz3 := hb3'.size
        clear hb3' hc1 hc2 hc3 HSE HSP hc
        go_wp2
        go_roundw
        case rel =>
          refine ⟨k + 1, by omega, by go_num, ?_, ?_, hbw3, by omega, HE3.out, HP3.out, hd1, hd2, hd3⟩
          · rw [HSEEN.out]
          · intro i hi
            by_cases hik : i < k
            · exact HA.out i hik
            · obtain rfl : i = k := by omega
              rw [HSN.out, HTP.out]; exact H0.out
        case measure => simp [intOf]; omega
      · have hne : (((sn &&& tp : Nat) : Int) != 0) = true := by simp; omega
        have HF : Hid (JT.chkF N es ps = 24) := JT.chkF_tops H1.out H2.out H3.out fun ht => h0 (by rw [← HSN.out, ← HTP.out]; exact ht k hlt)
        clear h0
        generalize sn &&& tp = st at *
        go_wp2_with fail
        refine (sep_any N _ PA EC PC es ps k _ (HSE.out.more (by omega)) HU.out (HSP.out.more (by omega)) hel hpl).mono ?_
        rw [HSPK.out]
        rintro e w3 ⟨rfl, hb3'⟩
        have hbw3 : Below w.heap.size w w3 := Below.then hb hb3' hb.size
        clear hb3' hc1 hc2 hc3 HSE HSP hc
        go_wp2
        go_ret
        exact ⟨ret_int HF.out.symm, hbw3⟩
    · have HF : Hid (JT.chkF N es ps = 0) := JT.chkF_ok H1.out H2.out H3.out fun i hi => HA.out i (by omega)
      go_wp2
      go_ret
      exact ⟨ret_int HF.out.symm, hb⟩
end
section
open Go.RowKit Go.Sort Go.ChangeMaps Go.WideShapes

theorem stepU36 {w : World} {ops : Array Oper} {o : Oper} {a : Act} {K : Act → World → Prop} {Q : Exit → Act → World → Prop} {E : Prop} (hgd : o.guard = none) (s x : Operand)
    (ho : o.op = .call { callee := .builtin .append, args := #[s, x], argTypes := #[85, 85] })
    (base : Nat) (v : Value) (l : List Nat) (hs : a.eval s = v) (hown : w.ownsRow base 57 1 v l.length (l.map fun z : Nat => Value.int .u32 (z : Int)))
    (gt : Nat) (z : Nat) (hx : a.eval x = .slice (some ⟨gt, 0, none⟩) 1 1) (hg : Row w gt 57 [.int .u32 (z : Int)])
    (hn : l.length ≤ 100000000) (hbase : base ≤ w.heap.size)
    (h : ∀ g cap w', w'.ownsRow base 57 1 (.slice (some ⟨g, 0, none⟩) (l.length + 1) cap) (l.length + 1) ((l ++ [z]).map fun z : Nat => Value.int .u32 (z : Int)) → w.grownBy w' v.ownBlock → (v.ownBlock = some g ∨ g = w.heap.size) → K (a.put o.dst (.slice (some ⟨g, 0, none⟩) (l.length + 1) cap)) w') :
    if Region.wanted o (yielded ops a.tmps) = true then Oper.wp Tryz.prog o a w K Q else E := by
  obtain ⟨i0, hi0, hz0, hz1, hz2⟩ := info_parts u32Info
  refine step_append_lies w hgd s x 85 ho base 57 i0 _ 1 4 Tryz.underlying85 hi0 hz0 hz1 hz2 rfl (by decide) v l.length _ hs hown ⟨gt, 0, none⟩ 1 1 [.int .u32 (z : Int)] hx rfl ?_ (by simp [Value.oneCell']) (by decide) (by simp only [maxLen]; omega) (by omega) hbase w.heap.size rfl ?_
  · intro j u hu
    have := hg.cell j
    rw [hu] at this
    rw [Addr.add_lit, Nat.zero_add]
    exact this
  · intro g cap w' k1 k2 k3 _
    refine h g cap w' ?_ k2 k3
    rw [List.map_append]
    exact k1

def topV (vs : List Nat) : Nat := if vs = [] then 0 else vs.getLastD 0 + 1
def graphN (al : List At) : Nat := al.foldl (fun n a => max n (topV a.vs)) 0
def graphE (al : List At) : List Nat := al.map fun a => setN a.vs
theorem graphN_snoc (l : List At) (a : At) : graphN (l ++ [a]) = max (graphN l) (topV a.vs) := by unfold graphN; rw [List.foldl_append]; rfl
theorem topV_nil : topV [] = 0 := rfl
theorem topV_last {vs : List Nat} (h : vs ≠ []) : ∃ hl : vs.length - 1 < vs.length, topV vs = vs[vs.length - 1] + 1 := by
  have hp : 0 < vs.length := List.length_pos_iff.2 h
  refine ⟨by omega, ?_⟩
  unfold topV
  rw [if_neg h, List.getLastD_eq_getLast?, List.getLast?_eq_getElem?, List.getElem?_eq_getElem (by omega)]
  rfl
theorem graphN_le {al : List At} (h : ∀ a ∈ al, Gd a) : graphN al ≤ 32 := by
  have hh : ∀ (l : List At) (n : Nat), (∀ a ∈ l, Gd a) → n ≤ 32 → l.foldl (fun n a => max n (topV a.vs)) n ≤ 32 := by
    intro l
    induction l with
    | nil => intro n _ hn; exact hn
    | cons a t ih =>
      intro n hl hn
      rw [List.foldl_cons]
      refine ih _ (fun b hb => hl b (List.mem_cons_of_mem _ hb)) ?_
      have : topV a.vs ≤ 32 := by
        by_cases he : a.vs = []
        · rw [he]; exact Nat.zero_le _
        · obtain ⟨hl', e⟩ := topV_last he
          have := (hl a List.mem_cons_self).lt _ (List.getElem_mem hl')
          omega
      omega
  exact hh al 0 h (Nat.zero_le _)
def errT (X : List RA) (ps : List Int) : Int := if errC X ≠ 0 then errC X else JT.chkF (graphN (X.map RA.at) : Nat) (graphE (X.map RA.at)) ps

set_option maxHeartbeats 16000000 in
theorem sjCheckTree_any (PA AA : Option Addr) (PC AC : Nat) (ps : List Int) (X : List RA) (w : World) (hA : AtsM w.heap.size w AA X) (hXl : X.length ≤ 9223372036854775807) (hX : ∀ a ∈ X, Small a) (hp : SlI .i64 w.heap.size w PA ps) (hpl : ps.length ≤ 1000000) :
    Calls Tryz.prog 38 #[.agg #[.slice PA ps.length PC], .slice AA X.length AC] w fun e w' => e = .returned (.int .i64 (errT X ps)) ∧ Below w.heap.size w w' := by
  obtain ⟨W0, hW0⟩ : ∃ W0, W0 = w.alloc (.cells #[.slice PA ps.length PC] 51) := ⟨_, rfl⟩
  have hx0 : Ext w W0 := by rw [hW0]; exact (Ext.refl w).alloc _
  have hrt : Row W0 w.heap.size 51 [.slice PA ps.length PC] := by rw [hW0]; exact Row.new w 51 _
  have hA0 := hA.upB hx0.below
  have HCK := Lib.hid (sjCheck_any AA AC X W0 hA0 hXl (fun a ha => by have := (hX a ha).vl; omega))
  have HA := Lib.hid (fun W (h : Below w.heap.size w W) => hA.upB h)
  have HPS := Lib.hid (fun W (h : Below w.heap.size w W) => (Sl.below hp h (Nat.le_refl _)).more h.size)
  have HX := Lib.hid hX
  have HX0 := Lib.hid hx0
  have HRT := Lib.hid hrt
  clear hA hX hp hx0 hrt hA0
  go_enter Tryz.func38, Tryz.ntmps38
  go_upto_region 1 with (fail)
  rw [← hW0]
  clear hW0
  go_wp2_with fail
  refine HCK.out.mono ?_
  rintro e w1 ⟨rfl, hb1⟩
  have HB1 := Lib.hid (Below.then HX0.out.below hb1 HX0.out.size)
  have HR1 := Lib.hid (HRT.out.up hb1)
  clear hb1 HCK
  by_cases h0 : errC X = 0
  rotate_left
  · have HE : Hid (errT X ps = errC X) := by show _ = _; unfold errT; rw [if_pos h0]
    have hne : (errC X != 0) = true := by simpa using h0
    clear h0
    generalize errC X = code at *
    go_wp2_with fail
    go_ret
    exact ⟨by rw [HE.out]; rfl, HB1.out⟩
  have HE : Hid (errT X ps = JT.chkF (graphN (X.map RA.at) : Nat) (graphE (X.map RA.at)) ps) := by show _ = _; unfold errT; rw [if_neg (by simpa using h0)]
  have hz := errC_zero h0
  have HGD : Hid (∀ a ∈ X, Gd a.at) := fun a ha => Gd.of (HX.out a ha) (hz.2 a ha)
  have HRV : Hid (∀ a ∈ X, a.at.ra = a) := fun a ha => RA.good (hz.2 a ha)
  have hX32 := hz.1
  rw [h0]
  clear h0 hz
  obtain ⟨W2, hW2⟩ : ∃ W2, W2 = w1.alloc (.cells #[.int .i64 0, .slice none 0 0] 87) := ⟨_, rfl⟩
  obtain ⟨g6, hg6⟩ : ∃ g6, g6 = w1.heap.size := ⟨_, rfl⟩
  have HX2 : Hid (Ext w1 W2) := by show Ext _ _; rw [hW2]; exact (Ext.refl w1).alloc _
  have HR6 : Hid (Row W2 g6 87 [.int .i64 (0 : Nat), .slice none 0 0]) := by show Row _ _ _ _; rw [hW2, hg6]; exact Row.new w1 87 _
  have HZ6 : Hid (w.heap.size < w1.heap.size ∧ w1.heap.size = g6 ∧ g6 + 1 = W2.heap.size) := ⟨HR1.out.lt, hg6.symm, by rw [hW2, hg6]; simp⟩
  have HG6 := Lib.hid hg6
  clear hg6
  go_upto_region 5 with (fail)
  rw [← hW2, ← HG6.out]
  clear hW2 HG6
  go_wp2_with fail
  go_loopw [16] (fun c wx => ∃ (k : Nat) (vo : Value), k ≤ X.length ∧ c = .int .i64 k ∧ Row wx g6 87 [.int .i64 (graphN ((X.take k).map RA.at) : Nat), vo] ∧ wx.ownsRow (g6 + 1) 57 1 vo (graphE ((X.take k).map RA.at)).length ((graphE ((X.take k).map RA.at)).map fun z : Nat => Value.int .u32 (z : Int)) ∧ Below g6 W2 wx) (fun c _ => X.length - (intOf c).toNat)
  case atStart => exact ⟨0, _, Nat.zero_le _, rfl, HR6.out, own_nil _ _ _ _, Below.refl _ _⟩
  case round =>
    obtain ⟨k, vo, hk, rfl, hrow, hown, hbw⟩ := hrel
    have HROW := Lib.hid hrow
    have HO := Lib.hid hown
    have HB := Lib.hid hbw
    have hz9 := HZ6.out
    have hzr : W2.heap.size ≤ wr.heap.size := hbw.size
    have HBW : Hid (Below w1.heap.size w1 wr) := Below.then HX2.out.below (hbw.mono (show w1.heap.size ≤ g6 by omega)) (Nat.le_refl _)
    have HBA : Hid (Below w.heap.size w wr) := Below.then HB1.out HBW.out HB1.out.size
    clear hrow hown hbw HR6
    by_cases hkl : k < X.length
    rotate_left
    · obtain rfl : k = X.length := by omega
      have r1 : ¬ (X.length : Int) < (X.length : Int) := by omega
      rw [List.take_length] at HROW HO
      have hown := HO.out
      have hNl : graphN (X.map RA.at) ≤ 32 := graphN_le fun b hb => by obtain ⟨a, ha, rfl⟩ := List.mem_map.1 hb; exact HGD.out a ha
      have hU : U32s (graphE (X.map RA.at)) := fun z hz => by
        unfold graphE at hz
        obtain ⟨b, hb, rfl⟩ := List.mem_map.1 hz
        obtain ⟨a, ha, rfl⟩ := List.mem_map.1 hb
        have := setN_lt (HGD.out a ha).lt
        omega
      have hEl : (graphE (X.map RA.at)).length ≤ 1000000 := by unfold graphE; rw [List.length_map, List.length_map]; omega
      obtain ⟨QA, QC, e, hqc, -, hqs⟩ := Sl.of_own hown
      rw [List.length_map] at e
      subst e
      have HJC := Lib.hid (jtCheck_any (graphN (X.map RA.at) : Nat) QA PA QC PC (graphE (X.map RA.at)) ps wr hqs hU (HPS.out wr HBA.out) hEl hpl)
      have q0 : wr.cell? ⟨g6, 0, none⟩ = some (.int .i64 (graphN (X.map RA.at) : Nat)) := HROW.out.cell 0
      have q1 : wr.cell? ⟨g6, 1, none⟩ = some (.slice QA (graphE (X.map RA.at)).length QC) := HROW.out.cell 1
      have q3 := HROW.out.lt
      have ht := HR1.out.up HBW.out
      have q4 : wr.cell? ⟨w.heap.size, 0, none⟩ = some (.slice PA ps.length PC) := ht.cell 0
      have q5 := ht.lt
      clear hown hqc hqs hNl hU hEl HROW HO ht
      generalize graphN (X.map RA.at) = N at *
      generalize graphE (X.map RA.at) = E at *
      go_wp2_with fail
      refine HJC.out.mono ?_
      rintro e w3 ⟨rfl, hb3⟩
      have HB3 := Lib.hid (Below.then HBA.out hb3 HBA.out.size)
      clear hb3 HJC
      go_wp2_with fail
      go_ret
      exact ⟨by rw [HE.out]; rfl, HB3.out⟩
    have r0 : (0 : Int) ≤ (k : Int) := by omega
    have r1 : (k : Int) < (X.length : Int) := by omega
    have r3 : IntKind.i64.wrap ((k : Int) + 1) = ((k + 1 : Nat) : Int) := by rw [IntWalk.i64_in _ (by omega)]; omega
    have hXm : X[k] ∈ X := List.getElem_mem hkl
    obtain ⟨ab, ao, VA, VC, QA, QC, rfl, hab, a0, a1, a2, -, -, -, -, av, -⟩ := ats_at (HA.out w1 HB1.out) hkl
    have HTK : Hid ((X.take (k + 1)).map RA.at = (X.take k).map RA.at ++ [X[k].at]) := by show _ = _; rw [List.take_succ_eq_append_getElem hkl, List.map_append]; rfl
    have HGK := Lib.hid (HGD.out _ hXm)
    have hrv := HRV.out _ hXm
    have hvs : X[k].vs = X[k].at.vs.map Int.ofNat := (congrArg RA.vs hrv).symm
    have har : X[k].ar = (X[k].at.vs.length : Nat) := (congrArg RA.ar hrv).symm
    rw [hvs, List.length_map] at a0
    rw [har] at a1
    rw [hvs] at av
    have HVS := Lib.hid av
    clear hvs har hrv hXm av
    generalize X[k].P = rp at *
    generalize X[k].at = a at *
    have a0 := (HBW.out.cell (p := ⟨ab, ao + k * 3, none⟩) hab).trans a0
    have a1 := (HBW.out.cell (p := ⟨ab, ao + k * 3 + 1, none⟩) hab).trans a1
    have a2 := (HBW.out.cell (p := ⟨ab, ao + k * 3 + 2, none⟩) hab).trans a2
    have hab2 : ab < wr.heap.size := Nat.lt_of_lt_of_le hab HBW.out.size
    have hgn : graphN ((X.take k).map RA.at) ≤ 32 := graphN_le fun b hb => by obtain ⟨c, hc, rfl⟩ := List.mem_map.1 hb; exact HGD.out c (List.mem_of_mem_take hc)
    have HGS := Lib.hid (graphN_snoc ((X.take k).map RA.at) a)
    have HGE : Hid (graphE ((X.take k).map RA.at ++ [a]) = graphE ((X.take k).map RA.at) ++ [setN a.vs]) := by show _ = _; unfold graphE; rw [List.map_append]; rfl
    have HLE : Hid ((graphE ((X.take k).map RA.at)).length ≤ 100000000) := by show _ ≤ _; unfold graphE; rw [List.length_map, List.length_map, List.length_take]; omega
    obtain ⟨us, UP⟩ := a
    simp only at HGS HGE HVS a0 a1
    generalize graphN ((X.take k).map RA.at) = N at *
    generalize graphE ((X.take k).map RA.at) = E at *
    have hul : us.length ≤ 32 := HGK.out.vl
    obtain ⟨wo, hwo⟩ : ∃ wo, wo = wr := ⟨_, rfl⟩
    subst hwo
    obtain ⟨W3, hW3⟩ : ∃ W3, W3 = wo.alloc (.cells #[.slice VA us.length VC, .int .i64 (us.length : Nat), .slice QA rp.length QC] 36) := ⟨_, rfl⟩
    obtain ⟨g8, hg8⟩ : ∃ g8, g8 = wo.heap.size := ⟨_, rfl⟩
    have HX3 : Hid (Ext wo W3) := by show Ext _ _; rw [hW3]; exact (Ext.refl wo).alloc _
    have HR8 : Hid (Row W3 g8 36 [.slice VA us.length VC, .int .i64 (us.length : Nat), .slice QA rp.length QC]) := by show Row _ _ _ _; rw [hW3, hg8]; exact Row.new wo 36 _
    have HR63 := Lib.hid (HROW.out.up HX3.out.below)
    have HO3 := Lib.hid (own_keep HO.out HX3.out.below)
    have HB3 : Hid (Below g6 W2 W3) := Below.then HB.out HX3.out.below (by omega)
    have HW3E := Lib.hid hW3
    have HG8E := Lib.hid hg8
    have HVR : Hid (∀ W, Below wo.heap.size wo W → SlI .i64 W.heap.size W VA (us.map Int.ofNat)) := fun W h => (Sl.below ((Sl.below HVS.out HBW.out (Nat.le_refl _)).more HBW.out.size) h (Nat.le_refl _)).more h.size
    have HOLT : Hid (∀ j, vo.ownBlock = some j → j < wo.heap.size) := own_lt HO.out
    clear hW3 hg8 HROW HO HA HGD HRV
    go_upto_region 8 with (fail)
    rw [← HW3E.out, ← HG8E.out]
    have e0 : W3.cell? ⟨g8, 0, none⟩ = some (.slice VA us.length VC) := HR8.out.cell 0
    have e1 : W3.cell? ⟨g8, 1, none⟩ = some (.int .i64 (us.length : Nat)) := HR8.out.cell 1
    have e2 : W3.cell? ⟨g8, 2, none⟩ = some (.slice QA rp.length QC) := HR8.out.cell 2
    have e3 := HR8.out.lt
    have f0 : W3.cell? ⟨g6, 0, none⟩ = some (.int .i64 (N : Nat)) := HR63.out.cell 0
    have f1 : W3.cell? ⟨g6, 1, none⟩ = some vo := HR63.out.cell 1
    have f2 := HR63.out.lt
    have f3 := HR63.out.frozen 0
    have f4 := HR63.out.frozen 1
    have HZ8 : Hid (g6 < g8) := by have := HG8E.out; have := HB.out.size; show _ < _; omega
    clear a0 a1 a2
    by_cases hne : us = []
    · have h0 : ¬ (0 : Int) < (us.length : Int) := by rw [hne]; simp
      have hl0 : us.length = 0 := by rw [hne]; rfl
      have hd : decide ((0 : Int) < (us.length : Int)) = false := decide_eq_false h0
      have hd1 : decide (0 < us.length) = false := decide_eq_false (by omega)
      have HGS2 : Hid (graphN ((X.take k).map RA.at ++ [⟨us, UP⟩]) = N) := by show _ = _; rw [HGS.out, hne, topV_nil, Nat.max_zero]
      have HRN := Lib.hid HR63.out
      have HR8N := Lib.hid HR8.out
      have HXN : Hid (Below wo.heap.size wo W3) := HX3.out.below
      have HON := Lib.hid HO3.out
      have HBN := Lib.hid HB3.out
      have HZN : Hid (g6 + 1 ≤ W3.heap.size ∧ g8 < W3.heap.size) := ⟨by omega, e3⟩
      have HNE8 : Hid (vo.ownBlock ≠ some g8) := fun e => by have := HOLT.out _ e; have := HG8E.out; omega
      clear h0 hl0 hne
      have HR64 : Hid (Row W3 g6 87 [.int .i64 (N : Nat), vo]) := HRN.out
      have HR84 : Hid (Row W3 g8 36 [.slice VA us.length VC, .int .i64 (us.length : Nat), .slice QA rp.length QC]) := HR8N.out
      have HKP : Hid (∀ W, Below W3.heap.size W3 W → (W.cell? ⟨g8, 0, none⟩ = some (.slice VA us.length VC) ∧ W.cell? ⟨g8, 1, none⟩ = some (.int .i64 (us.length : Nat)) ∧ W.cell? ⟨g8, 2, none⟩ = some (.slice QA rp.length QC)) ∧ W.cell? ⟨g6, 1, none⟩ = some vo) := fun W h => ⟨⟨(HR84.out.up h).cell 0, (HR84.out.up h).cell 1, (HR84.out.up h).cell 2⟩, (HR64.out.up h).cell 1⟩
      have HSE := Lib.hid (sjSet_any VA QA VC QC rp.length us.length us W3.drew (HVR.out W3.drew HXN.out.drew) (by omega) HGK.out.lt)
      have HOB : Hid (∀ j, vo.ownBlock = some j → g6 + 1 ≤ j) := fun j hj => own_base HON.out hj
      go_upto_region 10 with (fail)
      refine regionZ (S := (fun w' => (w'.cell? ⟨g8, 0, none⟩ = some (.slice VA us.length VC) ∧ w'.cell? ⟨g8, 1, none⟩ = some (.int .i64 (us.length : Nat)) ∧ w'.cell? ⟨g8, 2, none⟩ = some (.slice QA rp.length QC)) ∧ w'.cell? ⟨g6, 1, none⟩ = some vo)) 7 (by kernel_rfl) (HKP.out W3.drew (Below.refl _ _).drew) (fun hHeld => ?_)
      refine takeZ (i := 0) (v := ?_) (some 37) rfl rfl (by kernel_rfl) (by decide) (by kernel_rfl) (by kernel_rfl) (by kernel_rfl) (by kernel_rfl) (fun _ _ _ h => h) (Or.inl ⟨by rfl, ?_⟩) (by assumption) ?_
      rotate_left 1
      · (intro w0 hSw; (try dsimp only at hSw); go_simp; try (with_reducible rfl))
      try simp only [Act.put, List.setIfInBounds_toArray, List.set_cons_succ, List.set_cons_zero]
      refine takeZ (i := 1) (v := ?_) (some 38) rfl rfl (by kernel_rfl) (by decide) (by kernel_rfl) (by kernel_rfl) (by kernel_rfl) (by kernel_rfl) (fun _ _ _ h => h) (Or.inl ⟨by rfl, ?_⟩) (by assumption) ?_
      rotate_left 1
      · (intro w0 hSw; (try dsimp only at hSw); go_simp; try (with_reducible rfl))
      try simp only [Act.put, List.setIfInBounds_toArray, List.set_cons_succ, List.set_cons_zero]
      refine takeZ (i := 2) (v := ?_) (some 39) rfl rfl (by kernel_rfl) (by decide) (by kernel_rfl) (by kernel_rfl) (by kernel_rfl) (by kernel_rfl) (fun _ _ _ h => h) (Or.inl ⟨by rfl, ?_⟩) (by assumption) ?_
      rotate_left 1
      · (intro w0 hSw; (try dsimp only at hSw); go_simp; try (with_reducible rfl))
      try simp only [Act.put, List.setIfInBounds_toArray, List.set_cons_succ, List.set_cons_zero]
      refine oneZ (i := 3) (by kernel_rfl) rfl (by decide) (fun K hK => ?_)
      go_simp
      refine HSE.out.mono ?_
      rintro e V4 ⟨rfl, hb⟩
      have HV4 : Hid (Below W3.heap.size W3 V4) := Below.undrew hb.below
      clear hb
      go_wp2_with fail
      refine hK.out _ _ (HKP.out V4 HV4.out) (fun hHeld => ?_)
      clear hK K
      try simp only [Act.put, List.setIfInBounds_toArray, List.set_cons_succ, List.set_cons_zero]
      refine oneZ (i := 4) (by kernel_rfl) rfl (by decide) (fun K hK => ?_)
      go_simp
      obtain ⟨V5, hV5⟩ : ∃ V5, V5 = V4.alloc (.cells #[.int .u32 (setN us : Nat)] 57) := ⟨_, rfl⟩
      rw [← hV5]
      have HV5E := Lib.hid hV5
      have HV5 : Hid (Below W3.heap.size W3 V5) := by rw [hV5]; exact Below.then HV4.out ((Ext.refl V4).alloc _).below HV4.out.size
      have KEEP5 := HKP.out V5 HV5.out
      have HR5 : Hid (Row V5 V4.heap.size 57 [.int .u32 (setN us : Nat)]) := by show Row _ _ _ _; rw [hV5]; exact Row.new V4 57 _
      clear hV5
      refine hK.out _ _ KEEP5 (fun hHeld => ?_)
      clear hK K
      try simp only [Act.put, List.setIfInBounds_toArray, List.set_cons_succ, List.set_cons_zero]
      refine oneZ (i := 5) (by kernel_rfl) rfl (by decide) (fun K hK => ?_)
      have hb5 := HV5.out.size
      have hzN := HZN.out
      have hZ8 := HZ8.out
      refine stepU36 (w := V5) rfl (.tmp 38) (.tmp 41) rfl (g6 + 1) vo E (by simp [Act.eval]) (own_keep HON.out HV5.out) V4.heap.size (setN us) (by simp [Act.eval]) HR5.out HLE.out (by omega) ?_
      intro ng cap w6 hown6 hg7 hat6
      have HR66 : Hid (Row w6 g6 87 [.int .i64 (N : Nat), vo]) := (HR64.out.up HV5.out).grown hg7 (fun e => by have := HOB.out _ e.symm; omega)
      have k8 : ∀ i u, V5.cell? ⟨g8, i, none⟩ = some u → w6.cell? ⟨g8, i, none⟩ = some u := fun i u h => (grown_cell hg7 (p := ⟨g8, i, none⟩) (by show g8 < V5.heap.size; omega) (fun e => HNE8.out e.symm)).trans h
      have KEEP6 : w6.cell? ⟨g8, 0, none⟩ = some (.slice VA us.length VC) ∧ w6.cell? ⟨g8, 1, none⟩ = some (.int .i64 (us.length : Nat)) ∧ w6.cell? ⟨g8, 2, none⟩ = some (.slice QA rp.length QC) ∧ w6.cell? ⟨g6, 1, none⟩ = some vo := ⟨k8 _ _ KEEP5.1.1, k8 _ _ KEEP5.1.2.1, k8 _ _ KEEP5.1.2.2, HR66.out.cell 1⟩
      have HO6 := Lib.hid hown6
      have HB6 : Hid (Below g6 W2 w6) := (Below.then HBN.out HV5.out (by omega)).grown hg7 (by omega) (fun j hj => by have := HOB.out j hj; omega)
      have u0 := HR66.out.frozen 1
      have u1 := HR66.out.lt
      have u2 := KEEP6.2.2.2
      clear hown6 hg7 hat6 k8 hb5 hzN hZ8
      refine hK.out _ _ (And.intro ⟨KEEP6.1, KEEP6.2.1, KEEP6.2.2.1⟩ KEEP6.2.2.2) (fun hHeld => ?_)
      clear hK K
      try simp only [Act.put, List.setIfInBounds_toArray, List.set_cons_succ, List.set_cons_zero]
      refine takeZ (i := 6) (v := ?_) (some 43) rfl rfl (by kernel_rfl) (by decide) (by kernel_rfl) (by kernel_rfl) (by kernel_rfl) (by kernel_rfl) (fun _ _ _ h => h) (Or.inl ⟨by rfl, ?_⟩) (by assumption) ?_
      rotate_left 1
      · (intro w0 hSw; (try dsimp only at hSw); go_simp; try (with_reducible rfl))
      try simp only [Act.put, List.setIfInBounds_toArray, List.set_cons_succ, List.set_cons_zero]
      refine lastZ (by kernel_rfl) rfl (by kernel_rfl) (fun K hK => ?_)
      go_simp
      go_wp2_with fail
      refine hK.out _ _ ?_
      clear hK K
      try simp only [Act.put, List.setIfInBounds_toArray, List.set_cons_succ, List.set_cons_zero]
      have HR7 := Lib.hid (HR66.out.set 1 (.slice (some ⟨ng, 0, none⟩) (E.length + 1) cap))
      have HO7 := Lib.hid (own_far HO6.out (p := ⟨g6, 1, none⟩) (fun e => by have h1 := own_base HO6.out e; simp only at h1; omega) (.slice (some ⟨ng, 0, none⟩) (E.length + 1) cap))
      have HB7 := Lib.hid (HB6.out.setCell (p := ⟨g6, 1, none⟩) (Nat.le_refl _) (.slice (some ⟨ng, 0, none⟩) (E.length + 1) cap))
      clear hHeld
      go_wp2_with fail
      go_roundw
      case rel => exact ⟨k + 1, _, hkl, by go_num, by rw [HTK.out, HGS2.out]; exact HR7.out, by rw [HTK.out, HGE.out, List.length_append]; exact HO7.out, HB7.out⟩
      case measure => simp [intOf]; omega
    · obtain ⟨hl1, htop⟩ := topV_last hne
      have hpos : 0 < us.length := List.length_pos_iff.2 hne
      have hd : decide ((0 : Int) < (us.length : Int)) = true := decide_eq_true (by omega)
      have hd1 : decide (0 < us.length) = true := decide_eq_true hpos
      obtain ⟨vb, vj, hva, hvb, vc⟩ := slI_at HVS.out (i := us.length - 1) (by rw [List.length_map]; exact hl1)
      subst hva
      have vc := (Below.then HBW.out HX3.out.below HBW.out.size).cell (p := ⟨vb, vj + (us.length - 1), none⟩) hvb |>.trans vc
      rw [List.getElem_map] at vc
      change W3.cell? ⟨vb, vj + (us.length - 1), none⟩ = some (.int .i64 (us[us.length - 1] : Nat)) at vc
      have hlv := HGK.out.lt _ (List.getElem_mem hl1)
      generalize us[us.length - 1] = lv at *
      have hvb3 : vb < W3.heap.size := by have := HBW.out.size; have := HX3.out.size; omega
      have HGS2 : Hid (graphN ((X.take k).map RA.at ++ [⟨us, UP⟩]) = max N (lv + 1)) := by show _ = _; rw [HGS.out, htop]
      have w1' : IntKind.i64.wrap ((us.length : Int) - 1) = ((us.length - 1 : Nat) : Int) := by rw [IntWalk.i64_in _ (by omega)]; omega
      have w2' : IntKind.i64.wrap ((lv : Int) + 1) = ((lv + 1 : Nat) : Int) := by rw [IntWalk.i64_in _ (by omega)]; omega
      have g1 : (0 : Int) ≤ ((us.length - 1 : Nat) : Int) := by omega
      have g2 : ((us.length - 1 : Nat) : Int) < (us.length : Int) := by omega
      clear HGS htop hne hvb
      go_upto_region 9 with (fail)
      refine regionZ (S := (fun w' => (w'.cell? ⟨g8, 0, none⟩ = some (.slice (some ⟨vb, vj, none⟩) us.length VC) ∧ w'.cell? ⟨g6, 0, none⟩ = some (.int .i64 (N : Nat))) ∧ w'.cell? ⟨vb, vj + (us.length - 1), none⟩ = some (.int .i64 (lv : Nat)))) 13 (by kernel_rfl) ⟨⟨e0, f0⟩, vc⟩ (fun hHeld => ?_)
      refine takeZ (i := 0) (v := ?_) (some 24) rfl rfl (by kernel_rfl) (by decide) (by kernel_rfl) (by kernel_rfl) (by kernel_rfl) (by kernel_rfl) (fun _ _ _ h => h) (Or.inl ⟨by rfl, ?_⟩) (by assumption) ?_
      rotate_left 1
      · (intro w0 hSw; (try dsimp only at hSw); go_simp; try (with_reducible rfl))
      try simp only [Act.put, List.setIfInBounds_toArray, List.set_cons_succ, List.set_cons_zero]
      refine takeZ (i := 1) (v := ?_) (some 25) rfl rfl (by kernel_rfl) (by decide) (by kernel_rfl) (by kernel_rfl) (by kernel_rfl) (by kernel_rfl) (fun _ _ _ h => h) (Or.inl ⟨by rfl, ?_⟩) (by assumption) ?_
      rotate_left 1
      · (intro w0 hSw; (try dsimp only at hSw); go_simp; try (with_reducible rfl))
      try simp only [Act.put, List.setIfInBounds_toArray, List.set_cons_succ, List.set_cons_zero]
      refine takeZ (i := 2) (v := ?_) (some 26) rfl rfl (by kernel_rfl) (by decide) (by kernel_rfl) (by kernel_rfl) (by kernel_rfl) (by kernel_rfl) (fun _ _ _ h => h) (Or.inl ⟨by rfl, ?_⟩) (by assumption) ?_
      rotate_left 1
      · (intro w0 hSw; (try dsimp only at hSw); go_simp; try (with_reducible rfl))
      try simp only [Act.put, List.setIfInBounds_toArray, List.set_cons_succ, List.set_cons_zero]
      refine takeZ (i := 3) (v := ?_) (some 27) rfl rfl (by kernel_rfl) (by decide) (by kernel_rfl) (by kernel_rfl) (by kernel_rfl) (by kernel_rfl) (fun _ _ _ h => h) (Or.inl ⟨by rfl, ?_⟩) (by assumption) ?_
      rotate_left 1
      · (intro w0 hSw; (try dsimp only at hSw); go_simp; try (with_reducible rfl))
      try simp only [Act.put, List.setIfInBounds_toArray, List.set_cons_succ, List.set_cons_zero]
      refine takeZ (i := 4) (v := ?_) (some 28) rfl rfl (by kernel_rfl) (by decide) (by kernel_rfl) (by kernel_rfl) (by kernel_rfl) (by kernel_rfl) (fun _ _ _ h => h) (Or.inl ⟨by rfl, ?_⟩) (by assumption) ?_
      rotate_left 1
      · (intro w0 hSw; (try dsimp only at hSw); go_simp; try (with_reducible rfl))
      try simp only [Act.put, List.setIfInBounds_toArray, List.set_cons_succ, List.set_cons_zero]
      refine takeZ (i := 5) (v := ?_) (some 29) rfl rfl (by kernel_rfl) (by decide) (by kernel_rfl) (by kernel_rfl) (by kernel_rfl) (by kernel_rfl) (fun _ _ _ h => h) (Or.inl ⟨by rfl, ?_⟩) (by assumption) ?_
      rotate_left 1
      · (intro w0 hSw; (try dsimp only at hSw); go_simp; try (with_reducible rfl))
      try simp only [Act.put, List.setIfInBounds_toArray, List.set_cons_succ, List.set_cons_zero]
      refine takeZ (i := 6) (v := ?_) (some 30) rfl rfl (by kernel_rfl) (by decide) (by kernel_rfl) (by kernel_rfl) (by kernel_rfl) (by kernel_rfl) (fun _ _ _ h => h) (Or.inl ⟨by rfl, ?_⟩) (by assumption) ?_
      rotate_left 1
      · (intro w0 hSw; (try dsimp only at hSw); go_simp; try (with_reducible rfl))
      try simp only [Act.put, List.setIfInBounds_toArray, List.set_cons_succ, List.set_cons_zero]
      refine takeZ (i := 7) (v := ?_) (some 31) rfl rfl (by kernel_rfl) (by decide) (by kernel_rfl) (by kernel_rfl) (by kernel_rfl) (by kernel_rfl) (fun _ _ _ h => h) (Or.inl ⟨by rfl, ?_⟩) (by assumption) ?_
      rotate_left 1
      · (intro w0 hSw; (try dsimp only at hSw); go_simp; try (with_reducible rfl))
      try simp only [Act.put, List.setIfInBounds_toArray, List.set_cons_succ, List.set_cons_zero]
      refine takeZ (i := 8) (v := ?_) (some 32) rfl rfl (by kernel_rfl) (by decide) (by kernel_rfl) (by kernel_rfl) (by kernel_rfl) (by kernel_rfl) (fun _ _ _ h => h) (Or.inl ⟨by rfl, ?_⟩) (by assumption) ?_
      rotate_left 1
      · (intro w0 hSw; (try dsimp only at hSw); go_simp; try (with_reducible rfl))
      try simp only [Act.put, List.setIfInBounds_toArray, List.set_cons_succ, List.set_cons_zero]
      refine takeZ (i := 9) (v := ?_) (some 33) rfl rfl (by kernel_rfl) (by decide) (by kernel_rfl) (by kernel_rfl) (by kernel_rfl) (by kernel_rfl) (fun _ _ _ h => h) (Or.inl ⟨by rfl, ?_⟩) (by assumption) ?_
      rotate_left 1
      · (intro w0 hSw; (try dsimp only at hSw); go_simp; try (with_reducible rfl))
      try simp only [Act.put, List.setIfInBounds_toArray, List.set_cons_succ, List.set_cons_zero]
      refine takeZ (i := 10) (v := ?_) (some 34) rfl rfl (by kernel_rfl) (by decide) (by kernel_rfl) (by kernel_rfl) (by kernel_rfl) (by kernel_rfl) (fun _ _ _ h => h) (Or.inl ⟨by rfl, ?_⟩) (by assumption) ?_
      rotate_left 1
      · (intro w0 hSw; (try dsimp only at hSw); go_simp; try (with_reducible rfl))
      try simp only [Act.put, List.setIfInBounds_toArray, List.set_cons_succ, List.set_cons_zero]
      refine takeZ (i := 11) (v := ?_) (some 35) rfl rfl (by kernel_rfl) (by decide) (by kernel_rfl) (by kernel_rfl) (by kernel_rfl) (by kernel_rfl) (fun _ _ _ h => h) (Or.inl ⟨by rfl, ?_⟩) (by assumption) ?_
      rotate_left 1
      · (intro w0 hSw; (try dsimp only at hSw); go_simp; try (with_reducible rfl))
      try simp only [Act.put, List.setIfInBounds_toArray, List.set_cons_succ, List.set_cons_zero]
      refine takeZ (i := 12) (v := ?_) (some 36) rfl rfl (by kernel_rfl) (by decide) (by kernel_rfl) (by kernel_rfl) (by kernel_rfl) (by kernel_rfl) (fun _ _ _ h => h) (Or.inl ⟨by rfl, ?_⟩) (by assumption) ?_
      rotate_left 1
      · (intro w0 hSw; (try dsimp only at hSw); go_simp; try (with_reducible rfl))
      try simp only [Act.put, List.setIfInBounds_toArray, List.set_cons_succ, List.set_cons_zero]
      refine lastZ (by kernel_rfl) rfl (by kernel_rfl) (fun K hK => ?_)
      go_simp
      go_wp2_with fail
      refine hK.out _ _ ?_
      clear hK K
      try simp only [Act.put, List.setIfInBounds_toArray, List.set_cons_succ, List.set_cons_zero]
      have hmx : max (N : Int) ((lv : Int) + 1) = ((max N (lv + 1) : Nat) : Int) := by omega
      rw [hmx]
      obtain ⟨W4, hW4⟩ : ∃ W4, W4 = (W3.setCell ⟨g6, 0, none⟩ (.int .i64 ((max N (lv + 1) : Nat) : Int))).drew := ⟨_, rfl⟩
      rw [← hW4]
      have HRN : Hid (Row W4 g6 87 [.int .i64 ((max N (lv + 1) : Nat) : Int), vo]) := by show Row _ _ _ _; rw [hW4]; exact (HR63.out.set 0 _).drew
      have HR8N : Hid (Row W4 g8 36 [.slice (some ⟨vb, vj, none⟩) us.length VC, .int .i64 (us.length : Nat), .slice QA rp.length QC]) := by show Row _ _ _ _; rw [hW4]; exact (HR8.out.far (by show g8 ≠ g6; have := HZ8.out; omega) _).drew
      have HSW : Hid (SlI .i64 W4.heap.size W4 (some ⟨vb, vj, none⟩) (us.map Int.ofNat)) := by
        have h1 : SlI .i64 w1.heap.size W3 (some ⟨vb, vj, none⟩) (us.map Int.ofNat) := Sl.below (Sl.below HVS.out HBW.out (Nat.le_refl _)) HX3.out.below (by have := HBW.out.size; omega)
        show Sl _ _ _ _
        rw [hW4]
        exact Sl.drew ((Sl.setCell h1 (p := ⟨g6, 0, none⟩) (by show w1.heap.size ≤ g6; omega) _).more (by simp; have := HX3.out.size; have := HBW.out.size; omega))
      have HON : Hid (W4.ownsRow (g6 + 1) 57 1 vo E.length (E.map fun z : Nat => Value.int .u32 (z : Int))) := by
        show World.ownsRow _ _ _ _ _ _ _
        rw [hW4]
        exact own_keep (own_far HO3.out (p := ⟨g6, 0, none⟩) (fun e => by have h1 := own_base HO3.out e; simp only at h1; omega) _) (Below.refl _ _).drew
      have HBN : Hid (Below g6 W2 W4) := by show Below _ _ _; rw [hW4]; exact (HB3.out.setCell (p := ⟨g6, 0, none⟩) (Nat.le_refl _) _).drew
      have HZN : Hid (g6 + 1 ≤ W4.heap.size ∧ g8 < W4.heap.size) := by
        have : W4.heap.size = W3.heap.size := by rw [hW4]; simp
        show _ ∧ _
        omega
      have HNE8 : Hid (vo.ownBlock ≠ some g8) := fun e => by have := HOLT.out _ e; have := HG8E.out; omega
      clear hHeld e0 e1 e2 f0 f1 f2 f3 f4 vc hmx hW4 hd hd1
      have HR64 : Hid (Row W4 g6 87 [.int .i64 ((max N (lv + 1) : Nat) : Int), vo]) := HRN.out
      have HR84 : Hid (Row W4 g8 36 [.slice (some ⟨vb, vj, none⟩) us.length VC, .int .i64 (us.length : Nat), .slice QA rp.length QC]) := HR8N.out
      have HKP : Hid (∀ W, Below W4.heap.size W4 W → (W.cell? ⟨g8, 0, none⟩ = some (.slice (some ⟨vb, vj, none⟩) us.length VC) ∧ W.cell? ⟨g8, 1, none⟩ = some (.int .i64 (us.length : Nat)) ∧ W.cell? ⟨g8, 2, none⟩ = some (.slice QA rp.length QC)) ∧ W.cell? ⟨g6, 1, none⟩ = some vo) := fun W h => ⟨⟨(HR84.out.up h).cell 0, (HR84.out.up h).cell 1, (HR84.out.up h).cell 2⟩, (HR64.out.up h).cell 1⟩
      have HSE := Lib.hid (sjSet_any (some ⟨vb, vj, none⟩) QA VC QC rp.length us.length us W4.drew HSW.out.drew (by omega) HGK.out.lt)
      have HOB : Hid (∀ j, vo.ownBlock = some j → g6 + 1 ≤ j) := fun j hj => own_base HON.out hj
      go_upto_region 10 with (fail)
      refine regionZ (S := (fun w' => (w'.cell? ⟨g8, 0, none⟩ = some (.slice (some ⟨vb, vj, none⟩) us.length VC) ∧ w'.cell? ⟨g8, 1, none⟩ = some (.int .i64 (us.length : Nat)) ∧ w'.cell? ⟨g8, 2, none⟩ = some (.slice QA rp.length QC)) ∧ w'.cell? ⟨g6, 1, none⟩ = some vo)) 7 (by kernel_rfl) (HKP.out W4.drew (Below.refl _ _).drew) (fun hHeld => ?_)
      refine takeZ (i := 0) (v := ?_) (some 37) rfl rfl (by kernel_rfl) (by decide) (by kernel_rfl) (by kernel_rfl) (by kernel_rfl) (by kernel_rfl) (fun _ _ _ h => h) (Or.inl ⟨by rfl, ?_⟩) (by assumption) ?_
      rotate_left 1
      · (intro w0 hSw; (try dsimp only at hSw); go_simp; try (with_reducible rfl))
      try simp only [Act.put, List.setIfInBounds_toArray, List.set_cons_succ, List.set_cons_zero]
      refine takeZ (i := 1) (v := ?_) (some 38) rfl rfl (by kernel_rfl) (by decide) (by kernel_rfl) (by kernel_rfl) (by kernel_rfl) (by kernel_rfl) (fun _ _ _ h => h) (Or.inl ⟨by rfl, ?_⟩) (by assumption) ?_
      rotate_left 1
      · (intro w0 hSw; (try dsimp only at hSw); go_simp; try (with_reducible rfl))
      try simp only [Act.put, List.setIfInBounds_toArray, List.set_cons_succ, List.set_cons_zero]
      refine takeZ (i := 2) (v := ?_) (some 39) rfl rfl (by kernel_rfl) (by decide) (by kernel_rfl) (by kernel_rfl) (by kernel_rfl) (by kernel_rfl) (fun _ _ _ h => h) (Or.inl ⟨by rfl, ?_⟩) (by assumption) ?_
      rotate_left 1
      · (intro w0 hSw; (try dsimp only at hSw); go_simp; try (with_reducible rfl))
      try simp only [Act.put, List.setIfInBounds_toArray, List.set_cons_succ, List.set_cons_zero]
      refine oneZ (i := 3) (by kernel_rfl) rfl (by decide) (fun K hK => ?_)
      go_simp
      refine HSE.out.mono ?_
      rintro e V4 ⟨rfl, hb⟩
      have HV4 : Hid (Below W4.heap.size W4 V4) := Below.undrew hb.below
      clear hb
      go_wp2_with fail
      refine hK.out _ _ (HKP.out V4 HV4.out) (fun hHeld => ?_)
      clear hK K
      try simp only [Act.put, List.setIfInBounds_toArray, List.set_cons_succ, List.set_cons_zero]
      refine oneZ (i := 4) (by kernel_rfl) rfl (by decide) (fun K hK => ?_)
      go_simp
      obtain ⟨V5, hV5⟩ : ∃ V5, V5 = V4.alloc (.cells #[.int .u32 (setN us : Nat)] 57) := ⟨_, rfl⟩
      rw [← hV5]
      have HV5E := Lib.hid hV5
      have HV5 : Hid (Below W4.heap.size W4 V5) := by rw [hV5]; exact Below.then HV4.out ((Ext.refl V4).alloc _).below HV4.out.size
      have KEEP5 := HKP.out V5 HV5.out
      have HR5 : Hid (Row V5 V4.heap.size 57 [.int .u32 (setN us : Nat)]) := by show Row _ _ _ _; rw [hV5]; exact Row.new V4 57 _
      clear hV5
      refine hK.out _ _ KEEP5 (fun hHeld => ?_)
      clear hK K
      try simp only [Act.put, List.setIfInBounds_toArray, List.set_cons_succ, List.set_cons_zero]
      refine oneZ (i := 5) (by kernel_rfl) rfl (by decide) (fun K hK => ?_)
      have hb5 := HV5.out.size
      have hzN := HZN.out
      have hZ8 := HZ8.out
      refine stepU36 (w := V5) rfl (.tmp 38) (.tmp 41) rfl (g6 + 1) vo E (by simp [Act.eval]) (own_keep HON.out HV5.out) V4.heap.size (setN us) (by simp [Act.eval]) HR5.out HLE.out (by omega) ?_
      intro ng cap w6 hown6 hg7 hat6
      have HR66 : Hid (Row w6 g6 87 [.int .i64 ((max N (lv + 1) : Nat) : Int), vo]) := (HR64.out.up HV5.out).grown hg7 (fun e => by have := HOB.out _ e.symm; omega)
      have k8 : ∀ i u, V5.cell? ⟨g8, i, none⟩ = some u → w6.cell? ⟨g8, i, none⟩ = some u := fun i u h => (grown_cell hg7 (p := ⟨g8, i, none⟩) (by show g8 < V5.heap.size; omega) (fun e => HNE8.out e.symm)).trans h
      have KEEP6 : w6.cell? ⟨g8, 0, none⟩ = some (.slice (some ⟨vb, vj, none⟩) us.length VC) ∧ w6.cell? ⟨g8, 1, none⟩ = some (.int .i64 (us.length : Nat)) ∧ w6.cell? ⟨g8, 2, none⟩ = some (.slice QA rp.length QC) ∧ w6.cell? ⟨g6, 1, none⟩ = some vo := ⟨k8 _ _ KEEP5.1.1, k8 _ _ KEEP5.1.2.1, k8 _ _ KEEP5.1.2.2, HR66.out.cell 1⟩
      have HO6 := Lib.hid hown6
      have HB6 : Hid (Below g6 W2 w6) := (Below.then HBN.out HV5.out (by omega)).grown hg7 (by omega) (fun j hj => by have := HOB.out j hj; omega)
      have u0 := HR66.out.frozen 1
      have u1 := HR66.out.lt
      have u2 := KEEP6.2.2.2
      clear hown6 hg7 hat6 k8 hb5 hzN hZ8
      refine hK.out _ _ (And.intro ⟨KEEP6.1, KEEP6.2.1, KEEP6.2.2.1⟩ KEEP6.2.2.2) (fun hHeld => ?_)
      clear hK K
      try simp only [Act.put, List.setIfInBounds_toArray, List.set_cons_succ, List.set_cons_zero]
      refine takeZ (i := 6) (v := ?_) (some 43) rfl rfl (by kernel_rfl) (by decide) (by kernel_rfl) (by kernel_rfl) (by kernel_rfl) (by kernel_rfl) (fun _ _ _ h => h) (Or.inl ⟨by rfl, ?_⟩) (by assumption) ?_
      rotate_left 1
      · (intro w0 hSw; (try dsimp only at hSw); go_simp; try (with_reducible rfl))
      try simp only [Act.put, List.setIfInBounds_toArray, List.set_cons_succ, List.set_cons_zero]
      refine lastZ (by kernel_rfl) rfl (by kernel_rfl) (fun K hK => ?_)
      go_simp
      go_wp2_with fail
      refine hK.out _ _ ?_
      clear hK K
      try simp only [Act.put, List.setIfInBounds_toArray, List.set_cons_succ, List.set_cons_zero]
      have HR7 := Lib.hid (HR66.out.set 1 (.slice (some ⟨ng, 0, none⟩) (E.length + 1) cap))
      have HO7 := Lib.hid (own_far HO6.out (p := ⟨g6, 1, none⟩) (fun e => by have h1 := own_base HO6.out e; simp only at h1; omega) (.slice (some ⟨ng, 0, none⟩) (E.length + 1) cap))
      have HB7 := Lib.hid (HB6.out.setCell (p := ⟨g6, 1, none⟩) (Nat.le_refl _) (.slice (some ⟨ng, 0, none⟩) (E.length + 1) cap))
      clear hHeld
      go_wp2_with fail
      go_roundw
      case rel => exact ⟨k + 1, _, hkl, by go_num, by rw [HTK.out, HGS2.out]; exact HR7.out, by rw [HTK.out, HGE.out, List.length_append]; exact HO7.out, HB7.out⟩
      case measure => simp [intOf]; omega
end
section
open Go.RowKit Go.Sort Go.ChangeMaps Go.WideShapes

def GraphPost (al : List At) (w : World) (e : Ending) (w' : World) : Prop := ∃ QA QC, e = .returned (.agg #[.int .i64 (graphN al : Nat), .slice QA (graphE al).length QC]) ∧ SlN .u32 w'.heap.size w' QA (graphE al) ∧ Below w.heap.size w w'

set_option maxHeartbeats 16000000 in
theorem l36Graph_any (AA : Option Addr) (AC : Nat) (al : List At) (w : World) (hA : AtsR w.heap.size w AA (al.map At.ra)) (hl : al.length ≤ 1000000) (hg : ∀ a ∈ al, Gd a) :
    Calls Tryz.prog 36 #[.slice AA al.length AC] w (GraphPost al w) := by
  obtain ⟨w1, hw1⟩ : ∃ w1, w1 = w.alloc (.cells #[.int .i64 0, .slice none 0 0] 87) := ⟨_, rfl⟩
  have hx1 : Ext w w1 := by rw [hw1]; exact (Ext.refl w).alloc _
  have hrr : Row w1 w.heap.size 87 [.int .i64 0, .slice none 0 0] := by rw [hw1]; exact Row.new w 87 _
  have HB1 : Hid (Below w.heap.size w w1) := hx1.below
  have HR1 := Lib.hid hrr
  have HA := Lib.hid (hA.upB hx1.below)
  have HGD := Lib.hid hg
  have hw1z : w1.heap.size = w.heap.size + 1 := by rw [hw1]; simp
  obtain ⟨W2, hW2⟩ : ∃ W2, W2 = w1.alloc (.cells #[.int .i64 0, .slice none 0 0] 87) := ⟨_, rfl⟩
  obtain ⟨g6, hg6⟩ : ∃ g6, g6 = w1.heap.size := ⟨_, rfl⟩
  have HX2 : Hid (Ext w1 W2) := by show Ext _ _; rw [hW2]; exact (Ext.refl w1).alloc _
  have HR6 : Hid (Row W2 g6 87 [.int .i64 (0 : Nat), .slice none 0 0]) := by show Row _ _ _ _; rw [hW2, hg6]; exact Row.new w1 87 _
  have HZ6 : Hid (w.heap.size < w1.heap.size ∧ w1.heap.size = g6 ∧ g6 + 1 = W2.heap.size) := ⟨hrr.lt, hg6.symm, by rw [hW2, hg6]; simp⟩
  have HWE : Hid ((w.alloc (.cells #[.int .i64 0, .slice none 0 0] 87)).alloc (.cells #[.int .i64 0, .slice none 0 0] 87) = W2) := by show _ = _; rw [hW2, hw1]
  have HG6 : Hid (w.heap.size + 1 = g6) := by show _ = _; rw [hg6, hw1z]
  clear hA hx1 hrr hg hw1 hW2 hw1z hg6
  go_enter Tryz.func36, Tryz.ntmps36
  go_upto_region 2 with (fail)
  rw [HWE.out, HG6.out]
  clear HWE HG6
  go_wp2_with fail
  go_loopw [9] (fun c wx => ∃ (k : Nat) (vo : Value), k ≤ al.length ∧ c = .int .i64 k ∧ Row wx g6 87 [.int .i64 (graphN (al.take k) : Nat), vo] ∧ wx.ownsRow (g6 + 1) 57 1 vo (graphE (al.take k)).length ((graphE (al.take k)).map fun z : Nat => Value.int .u32 (z : Int)) ∧ Below g6 W2 wx) (fun c _ => al.length - (intOf c).toNat)
  case atStart => exact ⟨0, _, Nat.zero_le _, rfl, HR6.out, own_nil _ _ _ _, Below.refl _ _⟩
  case round =>
    obtain ⟨k, vo, hk, rfl, hrow, hown, hbw⟩ := hrel
    have HROW := Lib.hid hrow
    have HO := Lib.hid hown
    have HB := Lib.hid hbw
    have hz9 := HZ6.out
    have hzr : W2.heap.size ≤ wr.heap.size := hbw.size
    have HBW : Hid (Below w1.heap.size w1 wr) := Below.then HX2.out.below (hbw.mono (show w1.heap.size ≤ g6 by omega)) (Nat.le_refl _)
    have HBA : Hid (Below w.heap.size w wr) := Below.then HB1.out HBW.out HB1.out.size
    clear hrow hown hbw HR6
    by_cases hkl : k < al.length
    rotate_left
    · obtain rfl : k = al.length := by omega
      have r1 : ¬ (al.length : Int) < (al.length : Int) := by omega
      rw [List.take_length] at HROW HO
      obtain ⟨QA, QC, e, -, -, -⟩ := Sl.of_own HO.out
      rw [List.length_map] at e
      subst e
      have q0 : wr.cell? ⟨g6, 0, none⟩ = some (.int .i64 (graphN al : Nat)) := HROW.out.cell 0
      have q1 : wr.cell? ⟨g6, 1, none⟩ = some (.slice QA (graphE al).length QC) := HROW.out.cell 1
      have q3 := HROW.out.lt
      have HRR := Lib.hid (HR1.out.up HBW.out)
      have m0 : wr.cell? ⟨w.heap.size, 0, none⟩ = some (.int .i64 0) := HRR.out.cell 0
      have m1 : wr.cell? ⟨w.heap.size, 1, none⟩ = some (.slice none 0 0) := HRR.out.cell 1
      have m2 := HRR.out.frozen 0
      have m3 := HRR.out.frozen 1
      have m4 := HRR.out.lt
      clear HROW
      generalize hN : graphN al = N at *
      generalize hE : graphE al = E at *
      have HN := Lib.hid hN
      have HE := Lib.hid hE
      clear hN hE
      go_wp2_with fail
      obtain ⟨V6, hV6⟩ : ∃ V', V' = (wr.setCell ⟨w.heap.size, 0, none⟩ (.int .i64 (N : Nat))).setCell ⟨w.heap.size, 1, none⟩ (.slice QA E.length QC) := ⟨_, rfl⟩
      rw [← hV6]
      have q : Row V6 w.heap.size 87 [.int .i64 (N : Nat), .slice QA E.length QC] := by rw [hV6]; exact (HRR.out.set 0 _).set 1 _
      have f0 := q.cell 0
      have f1 := q.cell 1
      refine bodyPost_ret (v := .agg #[.int .i64 (N : Nat), .slice QA E.length QC]) (by simp [results, Tryz.results36, go_sem, f0, f1]) rfl ?_
      unfold GraphPost
      rw [HN.out, HE.out]
      have ho6 : V6.ownsRow (g6 + 1) 57 1 (.slice QA E.length QC) E.length (E.map fun z : Nat => Value.int .u32 (z : Int)) := by
        rw [hV6]
        exact own_far (own_far HO.out (p := ⟨w.heap.size, 0, none⟩) (fun e => by have h1 := own_base HO.out e; have := HZ6.out; simp only at h1; omega) _) (p := ⟨w.heap.size, 1, none⟩) (fun e => by have h1 := own_base HO.out e; have := HZ6.out; simp only at h1; omega) _
      obtain ⟨A', C', e', -, -, hs⟩ := Sl.of_own ho6
      injection e' with e1 e2 e3
      subst e1
      refine ⟨QA, QC, rfl, hs, ?_⟩
      rw [hV6]
      exact (HBA.out.setCell (p := ⟨w.heap.size, 0, none⟩) (Nat.le_refl _) _).setCell (p := ⟨w.heap.size, 1, none⟩) (Nat.le_refl _) _
    have r0 : (0 : Int) ≤ (k : Int) := by omega
    have r1 : (k : Int) < (al.length : Int) := by omega
    have r3 : IntKind.i64.wrap ((k : Int) + 1) = ((k + 1 : Nat) : Int) := by rw [IntWalk.i64_in _ (by omega)]; omega
    obtain ⟨ab, ao, VA, VC, QA, QC, rfl, hab, a0, a1, -, -, -, -, av, -⟩ := atsR_at HA.out (i := k) (by rw [List.length_map]; exact hkl)
    have HTK : Hid (al.take (k + 1) = al.take k ++ [al[k]]) := by show _ = _; rw [List.take_succ_eq_append_getElem hkl]
    have HGK := Lib.hid (HGD.out _ (List.getElem_mem hkl))
    simp only [List.getElem_map] at a0 a1 av
    have HVS : Hid (SlI .i64 w1.heap.size w1 VA (al[k].vs.map Int.ofNat)) := av
    have hvl : al[k].ra.vs.length = al[k].vs.length := List.length_map ..
    rw [hvl] at a0
    have a1 : w1.cell? ⟨ab, ao + k * 2 + 1, none⟩ = some (.slice QA al[k].P.length QC) := a1
    clear av hvl
    generalize al[k] = a at *
    have a0 := (HBW.out.cell (p := ⟨ab, ao + k * 2, none⟩) hab).trans a0
    have a1 := (HBW.out.cell (p := ⟨ab, ao + k * 2 + 1, none⟩) hab).trans a1
    have hab2 : ab < wr.heap.size := Nat.lt_of_lt_of_le hab HBW.out.size
    have hgn : graphN (al.take k) ≤ 32 := graphN_le fun b hb => HGD.out b (List.mem_of_mem_take hb)
    have HGS := Lib.hid (graphN_snoc (al.take k) a)
    have HGE : Hid (graphE (al.take k ++ [a]) = graphE (al.take k) ++ [setN a.vs]) := by show _ = _; unfold graphE; rw [List.map_append]; rfl
    have HLE : Hid ((graphE (al.take k)).length ≤ 100000000) := by show _ ≤ _; unfold graphE; rw [List.length_map, List.length_take]; omega
    obtain ⟨us, UP⟩ := a
    simp only at HGS HGE HVS a0 a1
    generalize graphN (al.take k) = N at *
    generalize graphE (al.take k) = E at *
    have hul : us.length ≤ 32 := HGK.out.vl
    obtain ⟨wo, hwo⟩ : ∃ wo, wo = wr := ⟨_, rfl⟩
    subst hwo
    obtain ⟨W3, hW3⟩ : ∃ W3, W3 = wo.alloc (.cells #[.slice VA us.length VC, .slice QA UP.length QC] 45) := ⟨_, rfl⟩
    obtain ⟨g8, hg8⟩ : ∃ g8, g8 = wo.heap.size := ⟨_, rfl⟩
    have HX3 : Hid (Ext wo W3) := by show Ext _ _; rw [hW3]; exact (Ext.refl wo).alloc _
    have HR8 : Hid (Row W3 g8 45 [.slice VA us.length VC, .slice QA UP.length QC]) := by show Row _ _ _ _; rw [hW3, hg8]; exact Row.new wo 45 _
    have HR63 := Lib.hid (HROW.out.up HX3.out.below)
    have HO3 := Lib.hid (own_keep HO.out HX3.out.below)
    have HB3 : Hid (Below g6 W2 W3) := Below.then HB.out HX3.out.below (by omega)
    have HW3E := Lib.hid hW3
    have HG8E := Lib.hid hg8
    have HVR : Hid (∀ W, Below wo.heap.size wo W → SlI .i64 W.heap.size W VA (us.map Int.ofNat)) := fun W h => (Sl.below ((Sl.below HVS.out HBW.out (Nat.le_refl _)).more HBW.out.size) h (Nat.le_refl _)).more h.size
    have HOLT : Hid (∀ j, vo.ownBlock = some j → j < wo.heap.size) := own_lt HO.out
    clear hW3 hg8 HROW HO HA HGD
    go_upto_region 5 with (fail)
    rw [← HW3E.out, ← HG8E.out]
    have e3 := HR8.out.lt
    have f2 := HR63.out.lt
    have HZ8 : Hid (g6 < g8) := by have := HG8E.out; have := HB.out.size; show _ < _; omega
    have HNE8 : Hid (vo.ownBlock ≠ some g8) := fun e => by have := HOLT.out _ e; have := HG8E.out; omega
    have HZN : Hid (g6 + 1 ≤ W3.heap.size ∧ g8 < W3.heap.size) := ⟨by omega, e3⟩
    clear a0 a1
    have HKP : Hid (∀ W, Below W3.heap.size W3 W → (W.cell? ⟨g8, 0, none⟩ = some (.slice VA us.length VC) ∧ W.cell? ⟨g8, 1, none⟩ = some (.slice QA UP.length QC)) ∧ W.cell? ⟨g6, 1, none⟩ = some vo) := fun W h => ⟨⟨(HR8.out.up h).cell 0, (HR8.out.up h).cell 1⟩, (HR63.out.up h).cell 1⟩
    have HSE := Lib.hid (r36Set_any VA QA VC QC UP.length us W3.drew (HVR.out W3.drew HX3.out.below.drew) (by omega) HGK.out.asc HGK.out.lt)
    have HOB : Hid (∀ j, vo.ownBlock = some j → g6 + 1 ≤ j) := fun j hj => own_base HO3.out hj
    refine regionZ (S := (fun w' => (w'.cell? ⟨g8, 0, none⟩ = some (.slice VA us.length VC) ∧ w'.cell? ⟨g8, 1, none⟩ = some (.slice QA UP.length QC)) ∧ w'.cell? ⟨g6, 1, none⟩ = some vo)) 7 (by kernel_rfl) (HKP.out W3.drew (Below.refl _ _).drew) (fun hHeld => ?_)
    refine takeZ (i := 0) (v := ?_) (some 13) rfl rfl (by kernel_rfl) (by decide) (by kernel_rfl) (by kernel_rfl) (by kernel_rfl) (by kernel_rfl) (fun _ _ _ h => h) (Or.inl ⟨by rfl, ?_⟩) (by assumption) ?_
    rotate_left 1
    · (intro w0 hSw; (try dsimp only at hSw); go_simp; try (with_reducible rfl))
    try simp only [Act.put, List.setIfInBounds_toArray, List.set_cons_succ, List.set_cons_zero]
    refine takeZ (i := 1) (v := ?_) (some 14) rfl rfl (by kernel_rfl) (by decide) (by kernel_rfl) (by kernel_rfl) (by kernel_rfl) (by kernel_rfl) (fun _ _ _ h => h) (Or.inl ⟨by rfl, ?_⟩) (by assumption) ?_
    rotate_left 1
    · (intro w0 hSw; (try dsimp only at hSw); go_simp; try (with_reducible rfl))
    try simp only [Act.put, List.setIfInBounds_toArray, List.set_cons_succ, List.set_cons_zero]
    refine takeZ (i := 2) (v := ?_) (some 15) rfl rfl (by kernel_rfl) (by decide) (by kernel_rfl) (by kernel_rfl) (by kernel_rfl) (by kernel_rfl) (fun _ _ _ h => h) (Or.inl ⟨by rfl, ?_⟩) (by assumption) ?_
    rotate_left 1
    · (intro w0 hSw; (try dsimp only at hSw); go_simp; try (with_reducible rfl))
    try simp only [Act.put, List.setIfInBounds_toArray, List.set_cons_succ, List.set_cons_zero]
    refine oneZ (i := 3) (by kernel_rfl) rfl (by decide) (fun K hK => ?_)
    go_simp
    refine HSE.out.mono ?_
    rintro e V4 ⟨rfl, hb⟩
    have HV4 : Hid (Below W3.heap.size W3 V4) := Below.undrew hb.below
    clear hb
    go_wp2_with fail
    refine hK.out _ _ (HKP.out V4 HV4.out) (fun hHeld => ?_)
    clear hK K
    try simp only [Act.put, List.setIfInBounds_toArray, List.set_cons_succ, List.set_cons_zero]
    refine oneZ (i := 4) (by kernel_rfl) rfl (by decide) (fun K hK => ?_)
    go_simp
    obtain ⟨V5, hV5⟩ : ∃ V5, V5 = V4.alloc (.cells #[.int .u32 (setN us : Nat)] 57) := ⟨_, rfl⟩
    rw [← hV5]
    have HV5E := Lib.hid hV5
    have HV5 : Hid (Below W3.heap.size W3 V5) := by rw [hV5]; exact Below.then HV4.out ((Ext.refl V4).alloc _).below HV4.out.size
    have KEEP5 := HKP.out V5 HV5.out
    have HR5 : Hid (Row V5 V4.heap.size 57 [.int .u32 (setN us : Nat)]) := by show Row _ _ _ _; rw [hV5]; exact Row.new V4 57 _
    clear hV5
    refine hK.out _ _ KEEP5 (fun hHeld => ?_)
    clear hK K
    try simp only [Act.put, List.setIfInBounds_toArray, List.set_cons_succ, List.set_cons_zero]
    refine oneZ (i := 5) (by kernel_rfl) rfl (by decide) (fun K hK => ?_)
    have hb5 := HV5.out.size
    have hzN := HZN.out
    have hZ8 := HZ8.out
    refine stepU36 (w := V5) rfl (.tmp 14) (.tmp 17) rfl (g6 + 1) vo E (by simp [Act.eval]) (own_keep HO3.out HV5.out) V4.heap.size (setN us) (by simp [Act.eval]) HR5.out HLE.out (by omega) ?_
    intro ng cap w6 hown6 hg7 hat6
    have HR66 : Hid (Row w6 g6 87 [.int .i64 (N : Nat), vo]) := (HR63.out.up HV5.out).grown hg7 (fun e => by have := HOB.out _ e.symm; omega)
    have k8 : ∀ i u, V5.cell? ⟨g8, i, none⟩ = some u → w6.cell? ⟨g8, i, none⟩ = some u := fun i u h => (grown_cell hg7 (p := ⟨g8, i, none⟩) (by show g8 < V5.heap.size; omega) (fun e => HNE8.out e.symm)).trans h
    have KEEP6 : w6.cell? ⟨g8, 0, none⟩ = some (.slice VA us.length VC) ∧ w6.cell? ⟨g8, 1, none⟩ = some (.slice QA UP.length QC) ∧ w6.cell? ⟨g6, 1, none⟩ = some vo := ⟨k8 _ _ KEEP5.1.1, k8 _ _ KEEP5.1.2, HR66.out.cell 1⟩
    have HO6 := Lib.hid hown6
    have HR86 : Hid (Row w6 g8 45 [.slice VA us.length VC, .slice QA UP.length QC]) := (HR8.out.up HV5.out).grown hg7 (fun e => HNE8.out e.symm)
    have HB6 : Hid (Below g6 W2 w6) := (Below.then HB3.out HV5.out (by omega)).grown hg7 (by omega) (fun j hj => by have := HOB.out j hj; omega)
    have HZ56 : Hid (W3.heap.size ≤ w6.heap.size) := Nat.le_trans hb5 hg7.size
    have u0 := HR66.out.frozen 1
    have u1 := HR66.out.lt
    have u2 := KEEP6.2.2
    clear hown6 hg7 hat6 k8 hb5 hzN hZ8
    refine hK.out _ _ (And.intro ⟨KEEP6.1, KEEP6.2.1⟩ KEEP6.2.2) (fun hHeld => ?_)
    clear hK K
    try simp only [Act.put, List.setIfInBounds_toArray, List.set_cons_succ, List.set_cons_zero]
    refine takeZ (i := 6) (v := ?_) (some 19) rfl rfl (by kernel_rfl) (by decide) (by kernel_rfl) (by kernel_rfl) (by kernel_rfl) (by kernel_rfl) (fun _ _ _ h => h) (Or.inl ⟨by rfl, ?_⟩) (by assumption) ?_
    rotate_left 1
    · (intro w0 hSw; (try dsimp only at hSw); go_simp; try (with_reducible rfl))
    try simp only [Act.put, List.setIfInBounds_toArray, List.set_cons_succ, List.set_cons_zero]
    refine lastZ (by kernel_rfl) rfl (by kernel_rfl) (fun K hK => ?_)
    go_simp
    go_wp2_with fail
    refine hK.out _ _ ?_
    clear hK K
    try simp only [Act.put, List.setIfInBounds_toArray, List.set_cons_succ, List.set_cons_zero]
    obtain ⟨vn, hvn⟩ : ∃ vn, vn = Value.slice (some ⟨ng, 0, none⟩) (E.length + 1) cap := ⟨_, rfl⟩
    rw [← hvn] at HO6 ⊢
    have HR7 := Lib.hid (HR66.out.set 1 vn)
    have HR87 := Lib.hid (HR86.out.far (p := ⟨g6, 1, none⟩) (by show g8 ≠ g6; have := HZ8.out; omega) vn)
    have HO7 := Lib.hid (own_far HO6.out (p := ⟨g6, 1, none⟩) (fun e => by have h1 := own_base HO6.out e; simp only at h1; omega) vn)
    have HB7 := Lib.hid (HB6.out.setCell (p := ⟨g6, 1, none⟩) (Nat.le_refl _) vn)
    obtain ⟨W7, hW7⟩ : ∃ W7, W7 = w6.setCell ⟨g6, 1, none⟩ vn := ⟨_, rfl⟩
    rw [← hW7] at HR7 HR87 HO7 HB7 ⊢
    have HZ7 : Hid (W3.heap.size ≤ W7.heap.size) := by show _ ≤ _; rw [hW7]; simpa using HZ56.out
    change Hid (Row W7 g6 87 [.int .i64 (N : Nat), vn]) at HR7
    clear hHeld hW7 hvn u0 u1 u2 KEEP6 KEEP5 HR66 HR86 HO6 HB6 HV5E HR5 HV5 HV4 HO3 HB3 HR63 HR8 HKP
    have e0 : W7.cell? ⟨g8, 0, none⟩ = some (.slice VA us.length VC) := HR87.out.cell 0
    have e1 : W7.cell? ⟨g8, 1, none⟩ = some (.slice QA UP.length QC) := HR87.out.cell 1
    have e4 := HR87.out.lt
    by_cases hne : us = []
    · have h0 : ¬ (0 : Int) < (us.length : Int) := by rw [hne]; simp
      have hl0 : us.length = 0 := by rw [hne]; rfl
      have hd : decide ((0 : Int) < (us.length : Int)) = false := decide_eq_false h0
      have hd1 : decide (0 < us.length) = false := decide_eq_false (by omega)
      have HGS2 : Hid (graphN (al.take k ++ [⟨us, UP⟩]) = N) := by show _ = _; rw [HGS.out, hne, topV_nil, Nat.max_zero]
      clear h0 hl0 hne
      go_wp2_with fail
      go_roundw
      case rel => exact ⟨k + 1, _, hkl, by go_num, by rw [HTK.out, HGS2.out]; exact HR7.out, by rw [HTK.out, HGE.out, List.length_append]; exact HO7.out, HB7.out⟩
      case measure => simp [intOf]; omega
    · obtain ⟨hl1, htop⟩ := topV_last hne
      have hpos : 0 < us.length := List.length_pos_iff.2 hne
      have hd : decide ((0 : Int) < (us.length : Int)) = true := decide_eq_true (by omega)
      have hd1 : decide (0 < us.length) = true := decide_eq_true hpos
      obtain ⟨vb, vj, hva, hvb, vc⟩ := slI_at HVS.out (i := us.length - 1) (by rw [List.length_map]; exact hl1)
      subst hva
      have hb17 : Below w1.heap.size w1 W7 := Below.then HX2.out.below (HB7.out.mono (show w1.heap.size ≤ g6 by omega)) (Nat.le_refl _)
      have vc := (hb17.cell (p := ⟨vb, vj + (us.length - 1), none⟩) hvb).trans vc
      rw [List.getElem_map] at vc
      change W7.cell? ⟨vb, vj + (us.length - 1), none⟩ = some (.int .i64 (us[us.length - 1] : Nat)) at vc
      have hlv := HGK.out.lt _ (List.getElem_mem hl1)
      generalize us[us.length - 1] = lv at *
      have hvb3 : vb < W7.heap.size := Nat.lt_of_lt_of_le hvb hb17.size
      have HGS2 : Hid (graphN (al.take k ++ [⟨us, UP⟩]) = max N (lv + 1)) := by show _ = _; rw [HGS.out, htop]
      have w1' : IntKind.i64.wrap ((us.length : Int) - 1) = ((us.length - 1 : Nat) : Int) := by rw [IntWalk.i64_in _ (by omega)]; omega
      have w2' : IntKind.i64.wrap ((lv : Int) + 1) = ((lv + 1 : Nat) : Int) := by rw [IntWalk.i64_in _ (by omega)]; omega
      have g1 : (0 : Int) ≤ ((us.length - 1 : Nat) : Int) := by omega
      have g2 : ((us.length - 1 : Nat) : Int) < (us.length : Int) := by omega
      have f0 : W7.cell? ⟨g6, 0, none⟩ = some (.int .i64 (N : Nat)) := HR7.out.cell 0
      have f3 := HR7.out.frozen 0
      have f5 := HR7.out.lt
      clear HGS htop hne hvb hb17
      go_upto_region 8 with (fail)
      refine regionZ (S := (fun w' => (w'.cell? ⟨g8, 0, none⟩ = some (.slice (some ⟨vb, vj, none⟩) us.length VC) ∧ w'.cell? ⟨g6, 0, none⟩ = some (.int .i64 (N : Nat))) ∧ w'.cell? ⟨vb, vj + (us.length - 1), none⟩ = some (.int .i64 (lv : Nat)))) 11 (by kernel_rfl) ⟨⟨e0, f0⟩, vc⟩ (fun hHeld => ?_)
      refine takeZ (i := 0) (v := ?_) (some 25) rfl rfl (by kernel_rfl) (by decide) (by kernel_rfl) (by kernel_rfl) (by kernel_rfl) (by kernel_rfl) (fun _ _ _ h => h) (Or.inl ⟨by rfl, ?_⟩) (by assumption) ?_
      rotate_left 1
      · (intro w0 hSw; (try dsimp only at hSw); go_simp; try (with_reducible rfl))
      try simp only [Act.put, List.setIfInBounds_toArray, List.set_cons_succ, List.set_cons_zero]
      refine takeZ (i := 1) (v := ?_) (some 26) rfl rfl (by kernel_rfl) (by decide) (by kernel_rfl) (by kernel_rfl) (by kernel_rfl) (by kernel_rfl) (fun _ _ _ h => h) (Or.inl ⟨by rfl, ?_⟩) (by assumption) ?_
      rotate_left 1
      · (intro w0 hSw; (try dsimp only at hSw); go_simp; try (with_reducible rfl))
      try simp only [Act.put, List.setIfInBounds_toArray, List.set_cons_succ, List.set_cons_zero]
      refine takeZ (i := 2) (v := ?_) (some 27) rfl rfl (by kernel_rfl) (by decide) (by kernel_rfl) (by kernel_rfl) (by kernel_rfl) (by kernel_rfl) (fun _ _ _ h => h) (Or.inl ⟨by rfl, ?_⟩) (by assumption) ?_
      rotate_left 1
      · (intro w0 hSw; (try dsimp only at hSw); go_simp; try (with_reducible rfl))
      try simp only [Act.put, List.setIfInBounds_toArray, List.set_cons_succ, List.set_cons_zero]
      refine takeZ (i := 3) (v := ?_) (some 28) rfl rfl (by kernel_rfl) (by decide) (by kernel_rfl) (by kernel_rfl) (by kernel_rfl) (by kernel_rfl) (fun _ _ _ h => h) (Or.inl ⟨by rfl, ?_⟩) (by assumption) ?_
      rotate_left 1
      · (intro w0 hSw; (try dsimp only at hSw); go_simp; try (with_reducible rfl))
      try simp only [Act.put, List.setIfInBounds_toArray, List.set_cons_succ, List.set_cons_zero]
      refine takeZ (i := 4) (v := ?_) (some 29) rfl rfl (by kernel_rfl) (by decide) (by kernel_rfl) (by kernel_rfl) (by kernel_rfl) (by kernel_rfl) (fun _ _ _ h => h) (Or.inl ⟨by rfl, ?_⟩) (by assumption) ?_
      rotate_left 1
      · (intro w0 hSw; (try dsimp only at hSw); go_simp; try (with_reducible rfl))
      try simp only [Act.put, List.setIfInBounds_toArray, List.set_cons_succ, List.set_cons_zero]
      refine takeZ (i := 5) (v := ?_) (some 30) rfl rfl (by kernel_rfl) (by decide) (by kernel_rfl) (by kernel_rfl) (by kernel_rfl) (by kernel_rfl) (fun _ _ _ h => h) (Or.inl ⟨by rfl, ?_⟩) (by assumption) ?_
      rotate_left 1
      · (intro w0 hSw; (try dsimp only at hSw); go_simp; try (with_reducible rfl))
      try simp only [Act.put, List.setIfInBounds_toArray, List.set_cons_succ, List.set_cons_zero]
      refine takeZ (i := 6) (v := ?_) (some 31) rfl rfl (by kernel_rfl) (by decide) (by kernel_rfl) (by kernel_rfl) (by kernel_rfl) (by kernel_rfl) (fun _ _ _ h => h) (Or.inl ⟨by rfl, ?_⟩) (by assumption) ?_
      rotate_left 1
      · (intro w0 hSw; (try dsimp only at hSw); go_simp; try (with_reducible rfl))
      try simp only [Act.put, List.setIfInBounds_toArray, List.set_cons_succ, List.set_cons_zero]
      refine takeZ (i := 7) (v := ?_) (some 32) rfl rfl (by kernel_rfl) (by decide) (by kernel_rfl) (by kernel_rfl) (by kernel_rfl) (by kernel_rfl) (fun _ _ _ h => h) (Or.inl ⟨by rfl, ?_⟩) (by assumption) ?_
      rotate_left 1
      · (intro w0 hSw; (try dsimp only at hSw); go_simp; try (with_reducible rfl))
      try simp only [Act.put, List.setIfInBounds_toArray, List.set_cons_succ, List.set_cons_zero]
      refine takeZ (i := 8) (v := ?_) (some 33) rfl rfl (by kernel_rfl) (by decide) (by kernel_rfl) (by kernel_rfl) (by kernel_rfl) (by kernel_rfl) (fun _ _ _ h => h) (Or.inl ⟨by rfl, ?_⟩) (by assumption) ?_
      rotate_left 1
      · (intro w0 hSw; (try dsimp only at hSw); go_simp; try (with_reducible rfl))
      try simp only [Act.put, List.setIfInBounds_toArray, List.set_cons_succ, List.set_cons_zero]
      refine takeZ (i := 9) (v := ?_) (some 34) rfl rfl (by kernel_rfl) (by decide) (by kernel_rfl) (by kernel_rfl) (by kernel_rfl) (by kernel_rfl) (fun _ _ _ h => h) (Or.inl ⟨by rfl, ?_⟩) (by assumption) ?_
      rotate_left 1
      · (intro w0 hSw; (try dsimp only at hSw); go_simp; try (with_reducible rfl))
      try simp only [Act.put, List.setIfInBounds_toArray, List.set_cons_succ, List.set_cons_zero]
      refine takeZ (i := 10) (v := ?_) (some 35) rfl rfl (by kernel_rfl) (by decide) (by kernel_rfl) (by kernel_rfl) (by kernel_rfl) (by kernel_rfl) (fun _ _ _ h => h) (Or.inl ⟨by rfl, ?_⟩) (by assumption) ?_
      rotate_left 1
      · (intro w0 hSw; (try dsimp only at hSw); go_simp; try (with_reducible rfl))
      try simp only [Act.put, List.setIfInBounds_toArray, List.set_cons_succ, List.set_cons_zero]
      refine lastZ (by kernel_rfl) rfl (by kernel_rfl) (fun K hK => ?_)
      go_simp
      go_wp2_with fail
      refine hK.out _ _ ?_
      clear hK K
      try simp only [Act.put, List.setIfInBounds_toArray, List.set_cons_succ, List.set_cons_zero]
      have hmx : max (N : Int) ((lv : Int) + 1) = ((max N (lv + 1) : Nat) : Int) := by omega
      rw [hmx]
      obtain ⟨W4, hW4⟩ : ∃ W4, W4 = (W7.setCell ⟨g6, 0, none⟩ (.int .i64 ((max N (lv + 1) : Nat) : Int))).drew := ⟨_, rfl⟩
      rw [← hW4]
      have HRN : Hid (Row W4 g6 87 [.int .i64 ((max N (lv + 1) : Nat) : Int), vn]) := by show Row _ _ _ _; rw [hW4]; exact (HR7.out.set 0 _).drew
      have HON : Hid (W4.ownsRow (g6 + 1) 57 1 vn (E.length + 1) ((E ++ [setN us]).map fun z : Nat => Value.int .u32 (z : Int))) := by
        show World.ownsRow _ _ _ _ _ _ _
        rw [hW4]
        exact own_keep (own_far HO7.out (p := ⟨g6, 0, none⟩) (fun e => by have h1 := own_base HO7.out e; simp only at h1; omega) _) (Below.refl _ _).drew
      have HBN : Hid (Below g6 W2 W4) := by show Below _ _ _; rw [hW4]; exact (HB7.out.setCell (p := ⟨g6, 0, none⟩) (Nat.le_refl _) _).drew
      clear hHeld e0 e1 f0 f3 vc hmx hW4 hd hd1
      go_wp2_with fail
      go_roundw
      case rel => exact ⟨k + 1, _, hkl, by go_num, by rw [HTK.out, HGS2.out]; exact HRN.out, by rw [HTK.out, HGE.out, List.length_append]; exact HON.out, HBN.out⟩
      case measure => simp [intOf]; omega
end
section
open Go.RowKit Go.Sort

set_option maxHeartbeats 8000000 in
theorem r36Wrong_any (AA ZA : Option Addr) (AC ZC : Nat) (X : List RA) (w : World) (hA : AtsR w.heap.size w AA X) (hZ : SlI .i64 w.heap.size w ZA (X.map (·.ar))) (hXl : X.length ≤ 1000000) (hvl : ∀ a ∈ X, a.vs.length ≤ 1000000) :
    Calls Tryz.prog 11 #[.slice AA X.length AC, .slice ZA X.length ZC] w fun e w' => e = .returned (.int .i64 (errC X)) ∧ Below w.heap.size w w' := by
  have HA := Lib.hid hA
  have HZ := Lib.hid hZ
  have HVL := Lib.hid hvl
  clear hA hZ hvl
  by_cases hX : 32 < X.length
  · have HE : Hid (errC X = 12) := by show _ = _; unfold errC; rw [if_pos hX]
    have hd3 : decide ((32 : Int) < (X.length : Int)) = true := decide_eq_true (by omega)
    go_enter Tryz.func11, Tryz.ntmps11
    go_wp2
    go_ret
    exact ⟨by rw [HE.out]; rfl, Below.refl _ _⟩
  have hd3 : decide ((32 : Int) < (X.length : Int)) = false := decide_eq_false (by omega)
  go_enter Tryz.func11, Tryz.ntmps11
  go_wp2
  clear hd3
  go_loopw [5] (fun c wr => ∃ k : Nat, k ≤ X.length ∧ c = .int .i64 k ∧ Below w.heap.size w wr ∧ ∀ j (hj : j < X.length), j < k → errAt 32 X[j] = 0) (fun c _ => X.length - (intOf c).toNat)
  case atStart => exact ⟨0, Nat.zero_le _, rfl, Below.refl _ _, fun j _ h => absurd h (by omega)⟩
  case round =>
    obtain ⟨k, hk, rfl, hbw, hall⟩ := hrel
    have HBW := Lib.hid hbw
    have HALL := Lib.hid hall
    clear hbw hall
    by_cases h1 : k < X.length
    · obtain ⟨b, o, VA, VC, PA, PC, rfl, hbl, c0, -, -, -, -, -, q5, -⟩ := atsR_at HA.out h1
      have c0 := (HBW.out.cell (p := ⟨b, o + k * 2, none⟩) hbl).trans c0
      have hb := Nat.lt_of_lt_of_le hbl HBW.out.size
      have hvl := HVL.out _ (List.getElem_mem h1)
      have HVS := Lib.hid q5
      obtain ⟨zb, zo, hza, hzbl, zc⟩ := slI_at HZ.out (show k < (X.map (·.ar)).length by rw [List.length_map]; exact h1)
      rw [List.getElem_map] at zc
      subst hza
      have zc := (HBW.out.cell (p := ⟨zb, zo + k, none⟩) hzbl).trans zc
      have hzb := Nat.lt_of_lt_of_le hzbl HBW.out.size
      have HERR : Hid (errAt 32 X[k] ≠ 0 → errC X = errAt 32 X[k]) := fun hne => errC_at hX h1 HALL.out hne
      have HNX : Hid (errAt 32 X[k] = 0 → ∀ j (hj : j < X.length), j < k + 1 → errAt 32 X[j] = 0) := fun h0 j hj hlt => by
        rcases Nat.lt_or_ge j k with h | h
        · exact HALL.out j hj h
        · have : j = k := by omega
          subst this
          exact h0
      clear q5
      generalize X[k] = r at *
      have g1 : (0 : Int) ≤ (k : Int) := by omega
      have g2 : (k : Int) < (X.length : Int) := by omega
      have hw1 : IntKind.i64.wrap ((k : Int) + 1) = ((k + 1 : Nat) : Int) := by rw [IntWalk.i64_in _ (by omega)]; omega
      obtain ⟨wo, hwo⟩ : ∃ wo, wo = wr := ⟨_, rfl⟩
      subst hwo
      go_wp2_with fail
      go_loopw [6] (fun c wx => ∃ i : Nat, 1 ≤ i ∧ c = .int .i64 i ∧ (∀ p (h : p + 1 < r.vs.length), p + 1 < i → r.vs[p] < r.vs[p + 1]) ∧ Ext wo wx) (fun c _ => r.vs.length - (intOf c).toNat)
      case atStart => exact ⟨1, Nat.le_refl _, rfl, fun p _ h => absurd h (by omega), Ext.refl _⟩
      case round =>
        obtain ⟨i, hi1, rfl, hasc, hxi⟩ := hrel
        have HASC := Lib.hid hasc
        have HXI := Lib.hid hxi
        have c0 := (hxi.cell (o := o + k * 2) hb).trans c0
        have zc := (hxi.cell (o := zo + k) hzb).trans zc
        have hb := Nat.lt_of_lt_of_le hb hxi.size
        have hzb := Nat.lt_of_lt_of_le hzb hxi.size
        have HBX := Lib.hid (Below.trans HBW.out (hxi.below.mono HBW.out.size))
        clear hasc hxi
        by_cases h2 : i < r.vs.length
        · obtain ⟨vb, vo, hva, hvb, va⟩ := slI_at HVS.out (show i - 1 < r.vs.length by omega)
          obtain ⟨vb2, vo2, hva2, -, vc⟩ := slI_at HVS.out h2
          rw [hva] at hva2
          injection hva2 with hva2
          injection hva2 with e1 e2
          subst e1 e2 hva
          have va := (HBX.out.cell (p := ⟨vb, vo + (i - 1), none⟩) hvb).trans va
          have vc := (HBX.out.cell (p := ⟨vb, vo + i, none⟩) hvb).trans vc
          have hvb2 := Nat.lt_of_lt_of_le hvb HBX.out.size
          have HG : Hid (r.vs[i] ≤ r.vs[i - 1] → errAt 32 r = 16) := fun hge => by
            refine errAt_order (p := i - 1) (by omega) ?_
            have e : i - 1 + 1 = i := by omega
            simp only [e]
            exact hge
          have HL : Hid (¬ r.vs[i] ≤ r.vs[i - 1] → ∀ p (h : p + 1 < r.vs.length), p + 1 < i + 1 → r.vs[p] < r.vs[p + 1]) := fun hlt p h hp => by
            rcases Nat.lt_or_ge (p + 1) i with h3 | h3
            · exact HASC.out p h h3
            · have : i = p + 1 := by omega
              subst this
              have e : p + 1 - 1 = p := by omega
              simp only [e] at hlt
              omega
          generalize r.vs[i] = y at *
          generalize r.vs[i - 1] = z at *
          have hws : IntKind.i64.wrap ((i : Int) - 1) = ((i - 1 : Nat) : Int) := by rw [IntWalk.i64_in _ (by omega)]; omega
          have hwi : IntKind.i64.wrap ((i : Int) + 1) = ((i + 1 : Nat) : Int) := by rw [IntWalk.i64_in _ (by omega)]; omega
          have g3 : (0 : Int) ≤ ((i - 1 : Nat) : Int) := by omega
          have g4 : ((i - 1 : Nat) : Int) < (r.vs.length : Int) := by omega
          have g5 : (0 : Int) ≤ (i : Int) := by omega
          have g6 : (i : Int) < (r.vs.length : Int) := by omega
          by_cases hge : y ≤ z
          · have hdd : decide (y ≤ z) = true := decide_eq_true hge
            have HE := Lib.hid (HERR.out (by rw [HG.out hge]; decide))
            have HE2 := Lib.hid (HG.out hge)
            go_wp2
            go_quiet (fail)
            go_wp2
            go_ret
            exact ⟨by rw [HE.out, HE2.out]; rfl, Below.then HBX.out ((Ext.refl wr).drewN _).below HBX.out.size⟩
          · have hdd : decide (y ≤ z) = false := decide_eq_false hge
            have HL2 := Lib.hid (HL.out hge)
            clear HG HL
            go_wp2
            go_quiet (fail)
            go_wp2
            go_roundw
            case rel => exact ⟨i + 1, by omega, by go_num, HL2.out, HXI.out.drewN _⟩
            case measure => simp [intOf]; omega
        have HP : Hid (r.vs.Pairwise (· < ·)) := pairwise_adj _ fun p h => HASC.out p h (by omega)
        obtain ⟨wp, hwp⟩ : ∃ wp, wp = wr := ⟨_, rfl⟩
        subst hwp
        clear HASC
        go_wp2_with fail
        go_loopw [7] (fun c wx => ∃ j : Nat, j ≤ r.vs.length ∧ c = .int .i64 j ∧ (∀ v ∈ r.vs.take j, 0 ≤ v ∧ v < (32 : Int)) ∧ wx = wp) (fun c _ => r.vs.length - (intOf c).toNat)
        case atStart => exact ⟨0, Nat.zero_le _, rfl, fun v hv => by simp at hv, rfl⟩
        case round =>
          obtain ⟨j, hj, rfl, hrg, rfl⟩ := hrel
          have HRG := Lib.hid hrg
          clear hrg
          by_cases h3 : j < r.vs.length
          · obtain ⟨vb, vo, hva, hvb, vc⟩ := slI_at HVS.out h3
            subst hva
            have vc := (HBX.out.cell (p := ⟨vb, vo + j, none⟩) hvb).trans vc
            have hvb2 := Nat.lt_of_lt_of_le hvb HBX.out.size
            have HVM : Hid (r.vs[j] ∈ r.vs) := List.getElem_mem h3
            have HTJ : Hid (r.vs.take (j + 1) = r.vs.take j ++ [r.vs[j]]) := List.take_succ_eq_append_getElem h3
            generalize r.vs[j] = v at *
            have g3 : (0 : Int) ≤ (j : Int) := by omega
            have g4 : (j : Int) < (r.vs.length : Int) := by omega
            have hwj : IntKind.i64.wrap ((j : Int) + 1) = ((j + 1 : Nat) : Int) := by rw [IntWalk.i64_in _ (by omega)]; omega
            by_cases hv0 : v < 0
            · have hE2 := errAt_range HP.out HVM.out (.inl hv0 : v < 0 ∨ (32 : Int) ≤ v)
              have HE := Lib.hid (HERR.out (by rw [hE2]; decide))
              have HE2 := Lib.hid hE2
              have hdd : decide (v < 0) = true := decide_eq_true hv0
              clear hE2
              go_wp2
              go_ret
              exact ⟨by rw [HE.out, HE2.out]; rfl, HBX.out⟩
            by_cases hvm : (32 : Int) ≤ v
            · have hE2 := errAt_range HP.out HVM.out (.inr hvm : v < 0 ∨ (32 : Int) ≤ v)
              have HE := Lib.hid (HERR.out (by rw [hE2]; decide))
              have HE2 := Lib.hid hE2
              have hdd : decide (v < 0) = false := decide_eq_false hv0
              have hdd2 : decide ((31 : Int) < v) = true := decide_eq_true (by omega)
              clear hE2
              go_wp2
              go_ret
              exact ⟨by rw [HE.out, HE2.out]; rfl, HBX.out⟩
            have hdd : decide (v < 0) = false := decide_eq_false hv0
            have hdd2 : decide ((31 : Int) < v) = false := decide_eq_false (by omega)
            have HV2 : Hid (0 ≤ v ∧ v < (32 : Int)) := ⟨by omega, by omega⟩
            clear hv0 hvm
            go_wp2
            go_roundw
            case rel =>
              refine ⟨j + 1, h3, by go_num, fun v hv => ?_, by first | rfl | trivial⟩
              rw [HTJ.out] at hv
              rcases List.mem_append.1 hv with h | h
              · exact HRG.out v h
              · simp at h; subst h; exact HV2.out
            case measure => simp [intOf]; omega
          have HRALL : Hid (∀ v ∈ r.vs, 0 ≤ v ∧ v < (32 : Int)) := fun v hv => HRG.out v (by rw [List.take_of_length_le (by omega)]; exact hv)
          have HEA : Hid (errAt 32 r = if (r.vs.length : Int) = r.ar then 0 else 6) := errAt_arity HP.out HRALL.out
          clear HRG
          by_cases he : (r.vs.length : Int) = r.ar
          rotate_left
          · have hnb : ((r.vs.length : Int) != r.ar) = true := by simpa using he
            have HE := Lib.hid (HERR.out (by rw [HEA.out, if_neg he]; decide))
            have HE2 := Lib.hid (HEA.out.trans (if_neg he))
            clear he
            go_wp2
            go_quiet (fail)
            go_wp2
            go_ret
            exact ⟨by rw [HE.out, HE2.out]; rfl, Below.then HBX.out ((Ext.refl wr).drewN _).below HBX.out.size⟩
          have HZ0 := Lib.hid (HNX.out (by rw [HEA.out, if_pos he]))
          have hnb : ((r.vs.length : Int) != r.ar) = false := by simp [he]
          clear he HERR HNX HEA
          go_wp2
          go_quiet (fail)
          go_wp2
          go_roundw
          case rel => exact ⟨k + 1, by omega, by go_num, Below.then HBX.out ((Ext.refl wr).drewN _).below HBX.out.size, HZ0.out⟩
          case measure => simp [intOf]; omega
    · obtain rfl : k = X.length := by omega
      have HE : Hid (errC X = 0) := by
        show _ = _
        unfold errC
        rw [if_neg hX]
        have : X.find? (fun a => errAt 32 a != 0) = none := List.find?_eq_none.2 fun a ha => by
          obtain ⟨i, hi, rfl⟩ := List.getElem_of_mem ha
          have := HALL.out i hi hi
          simp [this]
        rw [this]
      go_wp2
      go_ret
      exact ⟨by rw [HE.out]; rfl, HBW.out⟩
end
section
open Go.RowKit Go.Sort

section
variable {P : Program} {ops : Array Oper} {Q : Exit → Act → World → Prop} {md : Region.Mode} {S : World → Prop} {zs : List Nat}

def wpAnyS (P : Program) (md : Region.Mode) (ops : Array Oper) (Q : Exit → Act → World → Prop) (S : World → Prop) (zs : List Nat) : Nat → Array Bool → Act → World → Prop
  | 0, listed, a, w => Region.ready md ops listed = [] ∧ Q .normal a w
  | fuel + 1, listed, a, w =>
    (Region.ready md ops listed = [] → Q .normal a w) ∧
    ∀ i ∈ Region.ready md ops listed, wpOp P ops Q i (fun a' w' => (zs.contains i = false → S w → S w') ∧ wpAnyS P md ops Q S zs fuel (listed.setIfInBounds i true) a' w') a w
theorem wpAny_of_S : ∀ (fuel : Nat) (listed : Array Bool) (a : Act) (w : World), wpAnyS P md ops Q S zs fuel listed a w → wpAny P md ops Q fuel listed a w
  | 0, _, _, _, h => h
  | fuel + 1, _, _, _, h => ⟨h.1, fun i hi => wpOp_mono (fun a' w' h' => wpAny_of_S fuel _ a' w' h'.2) (h.2 i hi)⟩
def waitB (md : Region.Mode) (ops : Array Oper) (zs : List Nat) (i : Nat) : Bool := zs.all fun z => (reach md ops z 2).contains i
theorem not_listed {listed : Array Bool} {i : Nat} (hr : i ∈ Region.ready md ops listed) (h : listed.getD i false = true) : False := by
  obtain ⟨hun, oi, hoi, _⟩ := mem_ready.1 hr
  rcases Nat.lt_or_ge i listed.size with h' | h'
  · simp [h'] at hun h
    rw [hun] at h
    cases h
  · simp [Array.getElem?_eq_none h'] at h

theorem wpAnyS_first {i : Nat} {oi : Oper} {v : Value} (hz : waitB md ops zs i = true) (hiz : zs.contains i = false) (hi : ops[i]? = some oi) (hsel : ∀ (j : Nat) (o : Oper) cs b, ops[j]? = some o → o.op ≠ .select cs b)
    (hQ : ∀ c a w, Q (.panic c) (a.put oi.dst v) w → Q (.panic c) a w) :
    ∀ (fuel : Nat) (listed : Array Bool) (a : Act) (w : World), Cl md ops listed →
      (∀ j oj, ops[j]? = some oj → j ≠ i → listed.getD j true = false → (∀ e ∈ oj.after, Region.binds md e = true → e.on ≠ i) → oi.apart ops oj = true) →
      i ∈ Region.ready md ops listed → YieldsIf P ops S oi v a → S w →
      wpAnyS P md ops Q S zs fuel (listed.setIfInBounds i true) (a.put oi.dst v) w → wpAnyS P md ops Q S zs (fuel + 1) listed a w
  | 0, listed, a, w, _, _, hr, hy, hS, H => by
    refine ⟨fun h => (by rw [h] at hr; cases hr), fun j hj => ?_⟩
    by_cases hji : j = i
    · subst hji; exact hy.wpOp hi hS ⟨fun _ _ => hS, H⟩
    · have := ready_mono hj hji
      rw [H.1] at this
      cases this
  | fuel + 1, listed, a, w, hc, hfree, hr, hy, hS, H => by
    refine ⟨fun h => (by rw [h] at hr; cases hr), fun j hj => ?_⟩
    by_cases hji : j = i
    · subst hji; exact hy.wpOp hi hS ⟨fun _ _ => hS, H⟩
    · have hjz : zs.contains j = false := by
        cases h : zs.contains j with
        | false => rfl
        | true =>
          have h1 := List.all_eq_true.1 hz j (by simpa using h)
          exact (not_listed hr (reach_listed hc hj 2 i (by simpa using h1))).elim
      have h1 := H.2 j (ready_mono hj hji)
      obtain ⟨hjun, oj, hoj, hall⟩ := mem_ready.1 hj
      have hnot : ∀ e ∈ oj.after, Region.binds md e = true → e.on ≠ i := fun e he hb heq => by
        have h2 := hall e he hb
        rw [heq] at h2
        exact not_listed hr h2
      have h2 := wpOp_putIf hoj (hfree j oj hoj hji hjun hnot) (fun cs b => hsel i oi cs b hi) (fun cs b => hsel j oj cs b hoj) hQ hy h1
      refine wpOp_mono (fun a' w' h3 => ⟨h3.2.1, wpAnyS_first hz hiz hi hsel hQ fuel (listed.setIfInBounds j true) a' w' (hc.step hj) (fun k ok hk hki hun hno => ?_) (ready_mono hr (Ne.symm hji)) h3.1 (h3.2.1 hjz hS) ?_⟩) h2
      · refine hfree k ok hk hki ?_ hno
        by_cases hjk : j = k
        · subst hjk; exact hjun
        · rw [getD_set_ne true hjk] at hun; exact hun
      · rw [Array.setIfInBounds_comm _ _ hji]
        exact h3.2.2
theorem wpAnyS_free {i : Nat} {oi : Oper} {v : Value} (hi : ops[i]? = some oi) (hsel : ∀ (j : Nat) (o : Oper) cs b, ops[j]? = some o → o.op ≠ .select cs b)
    (hQ : ∀ c a w, Q (.panic c) (a.put oi.dst v) w → Q (.panic c) a w) :
    ∀ (fuel : Nat) (listed : Array Bool) (a : Act) (w : World),
      (∀ j oj, ops[j]? = some oj → j ≠ i → listed.getD j true = false → (∀ e ∈ oj.after, Region.binds md e = true → e.on ≠ i) → oi.apart ops oj = true) →
      i ∈ Region.ready md ops listed → YieldsIf P ops (fun _ => True) oi v a →
      wpAnyS P md ops Q S zs fuel (listed.setIfInBounds i true) (a.put oi.dst v) w → wpAnyS P md ops Q S zs (fuel + 1) listed a w
  | 0, listed, a, w, _, hr, hy, H => by
    refine ⟨fun h => (by rw [h] at hr; cases hr), fun j hj => ?_⟩
    by_cases hji : j = i
    · subst hji; exact hy.wpOp hi trivial ⟨fun _ h => h, H⟩
    · have := ready_mono hj hji
      rw [H.1] at this
      cases this
  | fuel + 1, listed, a, w, hfree, hr, hy, H => by
    refine ⟨fun h => (by rw [h] at hr; cases hr), fun j hj => ?_⟩
    by_cases hji : j = i
    · subst hji; exact hy.wpOp hi trivial ⟨fun _ h => h, H⟩
    · have h1 := H.2 j (ready_mono hj hji)
      obtain ⟨hjun, oj, hoj, hall⟩ := mem_ready.1 hj
      have hnot : ∀ e ∈ oj.after, Region.binds md e = true → e.on ≠ i := fun e he hb heq => by
        have h2 := hall e he hb
        rw [heq] at h2
        exact not_listed hr h2
      have h2 := wpOp_putIf hoj (hfree j oj hoj hji hjun hnot) (fun cs b => hsel i oi cs b hi) (fun cs b => hsel j oj cs b hoj) hQ hy h1
      refine wpOp_mono (fun a' w' h3 => ⟨h3.2.1, wpAnyS_free hi hsel hQ fuel (listed.setIfInBounds j true) a' w' (fun k ok hk hki hun hno => ?_) (ready_mono hr (Ne.symm hji)) h3.1 ?_⟩) h2
      · refine hfree k ok hk hki ?_ hno
        by_cases hjk : j = k
        · subst hjk; exact hjun
        · rw [getD_set_ne true hjk] at hun; exact hun
      · rw [Array.setIfInBounds_comm _ _ hji]
        exact h3.2.2

theorem takeS {i : Nat} {oi : Oper} {v : Value} {fuel : Nat} {listed : Array Bool} {a : Act} {w : World} (d : Option Tmp) (hi : ops[i]? = some oi) (hd : oi.dst = d)
    (hz : waitB md ops zs i = true) (hiz : zs.contains i = false) (hcl : clB md ops listed = true) (hs : Region.noSelect ops = true) (hf : Region.free md ops listed i = true) (hr : (Region.ready md ops listed).contains i = true)
    (hQ : ∀ c a w, Q (.panic c) (a.put d v) w → Q (.panic c) a w) (hy : YieldsIf P ops S oi v a) (hS : S w)
    (h : wpAnyS P md ops Q S zs fuel (listed.setIfInBounds i true) (a.put d v) w) : wpAnyS P md ops Q S zs (fuel + 1) listed a w := by
  subst hd
  exact wpAnyS_first hz hiz hi (Region.noSelect_spec hs) hQ fuel listed a w (Cl.of hcl) (Region.free_spec hi hf) (by simpa using hr) hy hS h
theorem takeFree {i : Nat} {oi : Oper} {v : Value} {fuel : Nat} {listed : Array Bool} {a : Act} {w : World} (d : Option Tmp) (hi : ops[i]? = some oi) (hd : oi.dst = d)
    (hs : Region.noSelect ops = true) (hf : Region.free md ops listed i = true) (hr : (Region.ready md ops listed).contains i = true)
    (hQ : ∀ c a w, Q (.panic c) (a.put d v) w → Q (.panic c) a w) (hy : YieldsIf P ops (fun _ => True) oi v a)
    (h : wpAnyS P md ops Q S zs fuel (listed.setIfInBounds i true) (a.put d v) w) : wpAnyS P md ops Q S zs (fuel + 1) listed a w := by
  subst hd
  exact wpAnyS_free hi (Region.noSelect_spec hs) hQ fuel listed a w (Region.free_spec hi hf) (by simpa using hr) hy h
theorem oneS {i : Nat} {o : Oper} {fuel : Nat} {listed : Array Bool} {a : Act} {w : World} (hr : Region.ready md ops listed = [i]) (ho : ops[i]? = some o)
    (h : ∀ K' : Act → World → Prop, Shut (∀ a w, S w → (S w → wpAnyS P md ops Q S zs fuel (listed.setIfInBounds i true) a w) → K' a w) → if Region.wanted o (yielded ops a.tmps) = true then Oper.wp P o a w K' Q else K' (a.put o.dst undef) w) :
    wpAnyS P md ops Q S zs (fuel + 1) listed a w := by
  refine ⟨(fun h0 => by rw [hr] at h0; cases h0), fun j hj => ?_⟩
  rw [hr] at hj
  obtain rfl : j = i := by simpa using hj
  exact wpOp_step ho (fun K' hK => h K' (fun a w hS hW => hK a w ⟨fun _ _ => hS, hW hS⟩))
theorem oneL {i : Nat} {o : Oper} {fuel : Nat} {listed : Array Bool} {a : Act} {w : World} (hr : Region.ready md ops listed = [i]) (ho : ops[i]? = some o) (hiz : zs.contains i = true)
    (h : ∀ K' : Act → World → Prop, Shut (∀ a w, wpAnyS P md ops Q S zs fuel (listed.setIfInBounds i true) a w → K' a w) → if Region.wanted o (yielded ops a.tmps) = true then Oper.wp P o a w K' Q else K' (a.put o.dst undef) w) :
    wpAnyS P md ops Q S zs (fuel + 1) listed a w := by
  refine ⟨(fun h0 => by rw [hr] at h0; cases h0), fun j hj => ?_⟩
  rw [hr] at hj
  obtain rfl : j = i := by simpa using hj
  exact wpOp_step ho (fun K' hK => h K' (fun a w hW => hK a w ⟨(fun h0 => by rw [hiz] at h0; cases h0), hW⟩))
theorem doneS {listed : Array Bool} {a : Act} {w : World} (hr : Region.ready md ops listed = []) (h : Q .normal a w) : ∀ fuel, wpAnyS P md ops Q S zs fuel listed a w
  | 0 => ⟨hr, h⟩
  | _ + 1 => ⟨fun _ => h, by rw [hr]; simp⟩
theorem regionS {id : Nat} {a : Act} {w : World} (zs : List Nat) (hm : P.follows .mixedOrders = true) (hS : S w.drew)
    (h : S w.drew → wpAnyS P .any ops Q S zs ops.size (Array.replicate ops.size false) a w.drew) : (Code.region id ops true).wp P Q a w :=
  wp_region_any hm (wpAny_of_S _ _ _ _ (h hS))
end
end
section
open Go.RowKit Go.Sort
attribute [local go_sem] Oper.semAt_some

section
variable {P : Program} {ops : Array Oper} {Q : Exit → Act → World → Prop} {md : Region.Mode}
theorem wpIn_round {l n : Nat} {o : Oper} {a : Act} {w : World} {K : Act → World → Prop} (hd : ∀ c, o.op ≠ .defer c) (h : o.wp P a w K Q) : o.wpIn (Fence.wide.inRound l) n P a w K Q := by
  refine ⟨fun _ _ => trivial, ?_⟩
  rw [Oper.semAt_eq _ _ _ hd]
  unfold Oper.wp at h
  generalize (execOp a.eval o).run P w = r at *
  cases r with
  | ok x w' =>
    cases x with
    | value v => exact h
    | skip => exact h
    | defer d => exact h
    | enter f args => exact ⟨fun h0 => by simp [Fence.wide] at h0, CallsIn.inRound l (callsIn_wide.2 h)⟩
    | row row args => exact ⟨fun h0 => by simp [Fence.wide] at h0, fun c cs _ => let ⟨v, w'', r, s⟩ := h c cs; ⟨v, w'', r, stepsIn_wide.2 s⟩⟩
    | _ => exact h.elim
  | halt x w' => cases x <;> exact h
theorem wpAnyIn_round {l n : Nat} (hd : ∀ (i : Nat) (o : Oper), ops[i]? = some o → ∀ c, o.op ≠ .defer c) (hL : ¬ LetsOut Q) : ∀ (fuel : Nat) (listed : Array Bool) (a : Act) (w : World), wpAny P md ops Q fuel listed a w → wpAnyIn (Fence.wide.inRound l) n P md ops Q fuel listed a w
  | 0, _, _, _, h => h
  | fuel + 1, listed, a, w, h => ⟨h.1, fun i hi => by
      have h1 := h.2 i hi
      unfold wpOp at h1
      unfold wpOpIn
      cases ho : ops[i]? with
      | none => rw [ho] at h1; exact wpAnyIn_round hd hL fuel _ _ _ h1
      | some o =>
        rw [ho] at h1
        simp only at h1 ⊢
        by_cases hw : Region.wanted o (yielded ops a.tmps) = true
        · rw [if_pos hw] at h1 ⊢
          rcases h1 with h1 | h1
          · exact wpIn_round (hd i o ho) (Oper.wp_mono (fun a' w' h2 => wpAnyIn_round hd hL fuel _ _ _ h2) h1)
          · exact absurd h1.2 hL
        · rw [if_neg hw] at h1 ⊢
          exact ⟨fun _ _ => trivial, wpAnyIn_round hd hL fuel _ _ _ h1⟩⟩
def noDeferB (ops : Array Oper) : Bool := ops.toList.all fun o => match o.op with | .defer _ => false | _ => true
theorem noDefer_spec (h : noDeferB ops = true) : ∀ (i : Nat) (o : Oper), ops[i]? = some o → ∀ c, o.op ≠ .defer c := fun i o ho c e => by
  have hm : o ∈ ops.toList := by have := Array.mem_of_getElem? ho; simpa using this
  have := List.all_eq_true.1 h o hm
  rw [e] at this
  cases this
theorem region_roundS {l n id : Nat} {a : Act} {w : World} {S : World → Prop} (hd : noDeferB ops = true) (hL : ¬ LetsOut Q) (zs : List Nat) (hm : P.follows .mixedOrders = true) (hS : S w.drew)
    (h : S w.drew → wpAnyS P .any ops Q S zs ops.size (Array.replicate ops.size false) a w.drew) : (Code.region id ops true).wpIn (Fence.wide.inRound l) n P Q a w :=
  wpIn_region_any hm (wpAnyIn_round (noDefer_spec hd) hL _ _ _ _ (wpAny_of_S _ _ _ _ (h hS)))
end

def Calm (Q : Exit → Act → World → Prop) : Exit → Act → World → Prop
  | .panic _, _, _ => False
  | .outgrown, _, _ => False
  | .normal, a, w => Q .normal a w
  | .ret, a, w => Q .ret a w
  | .exit id, a, w => Q (.exit id) a w
  | .goto t, a, w => Q (.goto t) a w
theorem Calm.le {Q : Exit → Act → World → Prop} : ∀ (e : Exit) (a : Act) (w : World), Calm Q e a w → Q e a w
  | .panic _, _, _, h => h.elim
  | .outgrown, _, _, h => h.elim
  | .normal, _, _, h => h
  | .ret, _, _, h => h
  | .exit _, _, _, h => h
  | .goto _, _, _, h => h

def Turns (F : Nat → Prop) (w w' : World) : Prop := w.heap.size ≤ w'.heap.size ∧ ∀ k, k < w.heap.size → ¬ F k → w'.heap[k]? = w.heap[k]?
theorem Turns.refl (F : Nat → Prop) (w : World) : Turns F w w := ⟨Nat.le_refl _, fun _ _ _ => rfl⟩
theorem Turns.trans {F : Nat → Prop} {a b c : World} (h : Turns F a b) (k : Turns F b c) : Turns F a c := ⟨Nat.le_trans h.1 k.1, fun i hi hn => (k.2 i (Nat.lt_of_lt_of_le hi h.1) hn).trans (h.2 i hi hn)⟩
theorem Turns.cell {F : Nat → Prop} {w w' : World} (h : Turns F w w') {p : Addr} (hp : p.block < w.heap.size) (hn : ¬ F p.block) : w'.cell? p = w.cell? p := World.cell?_of_block (h.2 p.block hp hn)
theorem Turns.put {F : Nat → Prop} {n : Nat} (hF : ∀ b, n ≤ b → F b) (W : World) (l : Nat) (o o' : Obj) (hl : n ≤ l) (_ : W.heap[l]? = some o) (_ : o.isCells = false) (_ : o.isWalk = false) : Turns F W (W.putObj l o') := by
  have hg := grownBy_putObj' W l o'
  exact ⟨hg.size, fun k hk hn => hg.block k hk (fun e => hn (by injection e with e; rw [e]; exact hF l hl))⟩
theorem Turns.below {F : Nat → Prop} {w w' : World} (h : Below w.heap.size w w') : Turns F w w' := ⟨h.size, fun k hk _ => h.block k hk⟩
theorem Turns.set {F : Nat → Prop} (w : World) {p : Addr} (hp : F p.block) (u : Value) : Turns F w (w.setCell p u) := ⟨by simp, fun k _ hn => Below.heap_setCell w p u k (fun e => hn (e ▸ hp))⟩
end
section
open Go.RowKit Go.Sort Go.Shelf
attribute [local go_sem] Oper.semAt_some

theorem slBackward_any (A : Option Addr) (m C : Nat) (w : World) : Calls Tryz.prog 64 #[.slice A m C] w fun e w' => e = .returned (.func (.func 85) #[] #[.pointer (some ⟨w.heap.size, 0, none⟩)]) ∧ w' = w.alloc (.cells #[.slice A m C] 27) := by
  go_enter Tryz.func64, Tryz.ntmps64
  go_wp2
  go_ret
  exact ⟨rfl, rfl⟩

def seqB (m k : Nat) : List Nat := (List.range k).map fun j => m - 1 - j
theorem seqB_succ (m k : Nat) : seqB m (k + 1) = seqB m k ++ [m - 1 - k] := by unfold seqB; rw [List.range_succ, List.map_append]; rfl
theorem seqB_len (m k : Nat) : (seqB m k).length = k := by unfold seqB; rw [List.length_map, List.length_range]
theorem seqB_all (m : Nat) : seqB m m = (List.range m).reverse := by
  refine List.ext_getElem (by simp [seqB]) fun i h1 h2 => ?_
  simp [seqB]
def encB (L : List Nat) (i : Nat) : Array Value := #[.int .i64 (i : Int), .int .i64 ((L[i]?.getD 0 : Nat) : Int)]

set_option maxHeartbeats 4000000 in
theorem backward1_in (n l Bn ab ao C : Nat) (hn : 1 ≤ n) (L : List Nat) (F0 : Nat → Prop) (hB : ¬ F0 Bn) (hA : ¬ F0 ab) (hLl : L.length ≤ 1000000) (J Jx : List Nat → World → Prop)
    (hY : ∀ pre x W, J pre W → pre.length < L.length → YieldAt Fence.wide (n - 1) Tryz.prog l (encB L x) W fun e W' =>
      (e = .returned (.bool true) ∧ J (pre ++ [x]) W' ∧ Turns F0 W W') ∨ (e = .returned (.bool false) ∧ Jx (pre ++ [x]) W'))
    (W : World) (hBz : Bn < W.heap.size) (hAz : ab < W.heap.size) (hBs : W.cell? ⟨Bn, 0, none⟩ = some (.slice (some ⟨ab, ao, none⟩) L.length C)) (hc : ∀ j, j < L.length → W.cell? ⟨ab, ao + j, none⟩ = some (.int .i64 ((L[j]?.getD 0 : Nat) : Int))) (h0 : J [] W) :
    CallsIn Fence.wide n Tryz.prog 85 #[.func (.yield l) #[] #[], .pointer (some ⟨Bn, 0, none⟩)] W fun e W' => (∃ v, e = .returned v) ∧
      ((∃ ys, ys = (List.range L.length).reverse ∧ J ys W') ∨ (∃ pre, True ∧ Jx pre W')) := by
  refine callsIn_of_wp Tryz.func85 rfl trivial ?_ rfl
  simp only [Tryz.ntmps85, List.size_toArray, List.length_cons, List.length_nil, Nat.reduceAdd, Nat.reduceSub, Array.replicate_succ, Array.replicate_zero, List.push_toArray, List.append_toArray, List.nil_append, List.cons_append]
  have hw1 : IntKind.i64.wrap ((L.length : Int) - 1) = (L.length : Int) - 1 := IntWalk.i64_in _ (by omega)
  gi_wp2
  gi_loopw [3] (fun i wr => ∃ k : Nat, k ≤ L.length ∧ i = .int .i64 ((L.length : Int) - 1 - k) ∧ J (seqB L.length k) wr ∧ Turns F0 W wr) (fun i _ => ((intOf i) + 1).toNat)
  case atStart => exact ⟨0, Nat.zero_le _, by simp, h0, Turns.refl _ _⟩
  case round =>
    obtain ⟨k, hk, rfl, hJs, hnx⟩ := hrel
    by_cases hlt : k < L.length
    · obtain ⟨i, hi⟩ : ∃ i : Nat, i = L.length - 1 - k := ⟨_, rfl⟩
      have hii : (L.length : Int) - 1 - k = (i : Int) := by omega
      have hil : i < L.length := by omega
      rw [hii]
      obtain ⟨fn, tmps, assign, body, hy, hR⟩ := hY _ i wr hJs (by rw [seqB_len]; exact hlt)
      unfold encB at hy
      have hb' : wr.cell? ⟨Bn, 0, none⟩ = some (.slice (some ⟨ab, ao, none⟩) L.length C) := (hnx.cell (p := ⟨Bn, 0, none⟩) hBz hB).trans hBs
      have hcx := (hnx.cell (p := ⟨ab, ao + i, none⟩) hAz hA).trans (hc i hil)
      have hw2 : IntKind.i64.wrap ((i : Int) - 1) = (i : Int) - 1 := IntWalk.i64_in _ (by omega)
      have g0 : (0 : Int) ≤ (i : Int) := by omega
      have g1 : (i : Int) < (L.length : Int) := by omega
      generalize (L[i]?.getD 0) = z at *
      have HI := Lib.hid hi
      have HII := Lib.hid hii
      clear hi hii hc
      gi_wp2
      refine hR.mono ?_
      rintro e W3 (⟨rfl, hJ3, hk3⟩ | ⟨rfl, hJx3⟩)
      · have HE : Hid ((L.length : Int) - 1 - ((k + 1 : Nat) : Int) = (i : Int) - 1) := by have := HII.out; show _ = _; omega
        gi_wp2
        go_roundw
        case rel => exact ⟨k + 1, by omega, by rw [HE.out], by rw [seqB_succ, ← HI.out]; exact hJ3, hnx.trans hk3⟩
        case measure => simp [intOf] <;> omega
      · gi_wp2
        refine bodyPost_ret (results_none rfl _ _ _) rfl ?_
        exact ⟨⟨_, rfl⟩, .inr ⟨_, trivial, hJx3⟩⟩
    · obtain rfl : k = L.length := by omega
      have hii : (L.length : Int) - 1 - (L.length : Int) = -1 := by omega
      rw [hii]
      gi_wp2
      go_end0
      exact ⟨⟨_, rfl⟩, .inl ⟨_, rfl, by rw [← seqB_all]; exact hJs⟩⟩

theorem backward_stops (n Bn ab ao C : Nat) (hn : 1 ≤ n) (L : List Nat) (F0 : Nat → Prop) (hB : ¬ F0 Bn) (hA : ¬ F0 ab) (hLl : L.length ≤ 1000000) (w : World) (hBz : Bn < w.heap.size) (hAz : ab < w.heap.size)
    (hBs : w.cell? ⟨Bn, 0, none⟩ = some (.slice (some ⟨ab, ao, none⟩) L.length C)) (hc : ∀ j, j < L.length → w.cell? ⟨ab, ao + j, none⟩ = some (.int .i64 ((L[j]?.getD 0 : Nat) : Int))) :
    SeqStopsK Fence.wide n Tryz.prog 85 #[.pointer (some ⟨Bn, 0, none⟩)] (encB L) (Turns F0) (fun ys => ys = (List.range L.length).reverse) (fun _ => True) L.length w := fun l J Jx W hW _ _ hY h0 =>
  backward1_in n l Bn ab ao C hn L F0 hB hA hLl J Jx hY W (Nat.lt_of_lt_of_le hBz hW.size) (Nat.lt_of_lt_of_le hAz hW.size) ((hW.cell (p := ⟨Bn, 0, none⟩) hBz).trans hBs) (fun j hj => (hW.cell (p := ⟨ab, ao + j, none⟩) hAz).trans (hc j hj)) h0
end
section
open Go.RowKit

theorem own_form {w : World} {base : Nat} {e : TypeId} {v : Value} {n : Nat} {xs : List Value} (h : w.ownsRow base e 1 v n xs) (hn : 0 < n) :
    ∃ g cap, v = .slice (some ⟨g, 0, none⟩) n cap ∧ base ≤ g ∧ g < w.heap.size ∧ n ≤ cap ∧ w.ownsRow base e 1 (.slice (some ⟨g, 0, none⟩) n cap) n xs := by
  have h0 := h
  rcases h.2 with ⟨rfl, h0⟩ | ⟨g, cap, cur, rfl, hg, hh, hnc, _⟩
  · omega
  · refine ⟨g, cap, rfl, hg, ?_, hnc, h0⟩
    rcases Nat.lt_or_ge g w.heap.size with hlt | hge
    · exact hlt
    · rw [Array.getElem?_eq_none hge] at hh; cases hh

theorem own_cell27 {w : World} {base : Nat} {e : TypeId} {n g cap : Nat} {xs : List Value} (h : w.ownsRow base e 1 (.slice (some ⟨g, 0, none⟩) n cap) n xs) {j : Nat} (hj : j < xs.length) : w.cell? ⟨g, j, none⟩ = some xs[j] := by
  rw [h.cellAt j (by rw [← h.1]; exact hj), List.getElem?_eq_getElem hj]

set_option maxHeartbeats 400000 in
theorem jtOrder_ok (PA : Option Addr) (PC : Nat) (ps : List Int) (w : World) (hp : SlI .i64 w.heap.size w PA ps) (hpl : ps.length ≤ 1000000) (hr : JT.rootedB ps = true) :
    Calls Tryz.prog 43 #[.agg #[.slice PA ps.length PC]] w fun e w' => ∃ A c, e = .returned (.tuple #[.slice A (JT.orderF ps).length c, .int .i64 0]) ∧ Sl w'.heap.size w' A (natV (JT.orderF ps)) ∧ Below w.heap.size w w' := by
  have HP : Hid (∀ o, SlI .i64 (w.alloc o).heap.size (w.alloc o) PA ps) := fun o => (hp.alloc (Nat.le_refl _) o).more (by simp)
  have HV := Lib.hid (JT.rooted_parts hr).1
  have HR := Lib.hid hr
  clear hp hr
  go_enter Tryz.func43, Tryz.ntmps43
  go_wp2_with fail
  refine (rooted_any PA PC ps _ (HP.out _) hpl).mono ?_
  rw [HR.out]
  rintro e w1 ⟨rfl, hb1⟩
  have hc1 : w1.cell? ⟨w.heap.size, 0, none⟩ = some (.slice PA ps.length PC) := (hb1.cell (p := ⟨w.heap.size, 0, none⟩) (by simp)).trans (by go_simp)
  have HP1 := Lib.hid ((HP.out _).below hb1 (Nat.le_refl _))
  have hbw := Below.box hb1 (by simp)
  have hsz := hb1.size
  clear hb1 HP
  go_wp2_with fail
  refine (order_sl PA PC ps _ (HP1.out.more hsz) hpl HV.out).mono ?_
  rintro e w2 ⟨A, c, rfl, hs, hb2⟩
  have HS := Lib.hid hs
  have hbw2 := Below.then hbw hb2 hbw.size
  clear hs hb2 hbw
  go_wp2
  go_ret2
  exact ⟨_, _, rfl, HS.out, hbw2⟩

set_option maxHeartbeats 1000000 in
theorem jtReroot_ok (PA : Option Addr) (PC : Nat) (ps : List Int) (root : Nat) (w : World) (hp : SlI .i64 w.heap.size w PA ps) (hpl : ps.length ≤ 1000000) (hr : JT.rootedB ps = true) (hroot : root < ps.length) :
    Calls Tryz.prog 37 #[.agg #[.slice PA ps.length PC], .int .i64 root] w fun e w' => ∃ A c, e = .returned (.tuple #[.agg #[.slice A ps.length c], .int .i64 0]) ∧ (JT.rerootF ps root).length = ps.length ∧ SlI .i64 w'.heap.size w' A (JT.rerootF ps root) ∧ (∀ ad : Addr, A = some ad → w.heap.size ≤ ad.block) ∧ Below w.heap.size w w' := by
  have HP : Hid (∀ o1 o2, SlI .i64 ((w.alloc o1).alloc o2).heap.size ((w.alloc o1).alloc o2) PA ps) := fun o1 o2 => ((hp.alloc (Nat.le_refl _) o1).alloc (by simp) o2).more (by simp; omega)
  obtain ⟨hv, _, hup⟩ := JT.rooted_parts hr
  have HV := Lib.hid hv
  have HR := Lib.hid hr
  have HUP := Lib.hid (hup root hroot)
  have HW := Lib.hid hp
  clear hp hr hv hup
  go_enter Tryz.func37, Tryz.ntmps37
  go_wp2_with fail
  refine (rooted_any PA PC ps _ (HP.out _ _) hpl).mono ?_
  rw [HR.out]
  rintro e w1 ⟨rfl, hb1⟩
  have hc1 : w1.cell? ⟨w.heap.size, 0, none⟩ = some (.slice PA ps.length PC) := (hb1.cell (p := ⟨w.heap.size, 0, none⟩) (by simp; omega)).trans (by go_simp)
  have hc2 : w1.cell? ⟨w.heap.size + 1, 0, none⟩ = some (.slice none 0 0) := (hb1.cell (p := ⟨w.heap.size + 1, 0, none⟩) (by simp)).trans (by go_simp)
  have hf2 : w1.frozen? ⟨w.heap.size + 1, 0, none⟩ = false := (hb1.frozen (p := ⟨w.heap.size + 1, 0, none⟩) (by simp)).trans (by go_simp)
  have HP1 := Lib.hid ((HP.out _ _).below hb1 (Nat.le_refl _))
  have hbw := Below.box2 hb1 (by simp; omega)
  have hsz : w.heap.size + 2 ≤ w1.heap.size := by have := hb1.size; simp at this; omega
  have HPs := Lib.hid (HP1.out.more (show _ ≤ w1.heap.size by simp; omega))
  clear hb1 HP HP1
  go_wp2_with fail
  refine (cloneInt_any PA PC ps _ HPs.out hpl).mono ?_
  rintro e w2 ⟨v, rfl, hown, hb2⟩
  obtain ⟨g, cap, rfl, hg1, hg2, hncap, hown⟩ := own_form hown (by omega)
  have hd1 := (hb2.cell (p := ⟨w.heap.size, 0, none⟩) (by show w.heap.size < _; omega)).trans hc1
  have hd2 := (hb2.cell (p := ⟨w.heap.size + 1, 0, none⟩) (by show w.heap.size + 1 < _; omega)).trans hc2
  have hdf2 := (hb2.frozen (p := ⟨w.heap.size + 1, 0, none⟩) (by show w.heap.size + 1 < _; omega)).trans hf2
  have hbw2 := Below.then hbw hb2 hbw.size
  have hsz2 := hb2.size
  have HO := Lib.hid hown
  clear hbw hb2 hc1 hc2 hf2 hown HPs
  go_wp2
  go_loopg [7, 8] ps.length (fun gk a f wr => ∃ (av ab : Int) (out : List Int), a = .int .i64 av ∧ f = .int .i64 ab ∧ -1 ≤ av ∧ av < ps.length ∧ -1 ≤ ab ∧ ab < ps.length ∧ JT.up ps gk av < 0 ∧ JT.rerootGo ps gk av ab out = JT.rerootF ps root ∧ out.length = ps.length ∧ wr.ownsRow (w.heap.size + 2) 3 1 (.slice (some ⟨g, 0, none⟩) ps.length cap) ps.length (out.map (Value.int .i64)) ∧ Below w.heap.size w wr ∧ w2.heap.size < wr.heap.size ∧ wr.cell? ⟨w.heap.size, 0, none⟩ = some (.slice PA ps.length PC) ∧ wr.cell? ⟨w.heap.size + 1, 0, none⟩ = some (.slice none 0 0) ∧ wr.frozen? ⟨w.heap.size + 1, 0, none⟩ = false ∧ wr.cell? ⟨w2.heap.size, 0, none⟩ = some (.slice (some ⟨g, 0, none⟩) ps.length cap))
  case atStart => exact ⟨root, -1, ps, rfl, rfl, by omega, by omega, by omega, by omega, HUP.out, rfl, rfl, own_weaken (HO.out.alloc _) (by omega), hbw2.alloc (by omega) _, by simp, old_cell _ _ (by show w.heap.size < _; omega) hd1, old_cell _ _ (by show w.heap.size + 1 < _; omega) hd2, old_frozen _ _ (by show w.heap.size + 1 < _; omega) hdf2, by go_simp⟩
  case round =>
    clear hd1 hd2 hdf2 HO hbw2
    obtain ⟨av, ab, out, rfl, rfl, ha1, ha2, hb1, hb2, hup, hgo, hol, hown, hb, hwz, hc1, hc2, hf2, hc3⟩ := hrel
    have HO := Lib.hid hown
    have HU := Lib.hid hup
    have HGO := Lib.hid hgo
    have HOL := Lib.hid hol
    clear hown hup hgo hol
    by_cases hneg : av < 0
    · have hout : out = JT.rerootF ps root := by rw [← HGO.out, JT.rerootGo_neg hneg]
      have HOUT := Lib.hid hout
      clear hout
      go_wp2
      refine bodyPost_ret (v := .tuple #[.agg #[.slice (some ⟨g, 0, none⟩) ps.length cap], .int .i64 0]) (by simp [results, Tryz.results37, go_sem, World.cell?_setCell_same _ _ _ hc2]) rfl ⟨_, _, rfl, by rw [← HOUT.out]; exact HOL.out, ?_, (fun ad h => by injection h with h; subst h; show w.heap.size ≤ g; omega), hb.setCell (by simp) _⟩
      rw [← HOUT.out]
      obtain ⟨A, c, e, _, _, hs⟩ := Sl.of_own (ownsRow_setCell_below HO.out (a := ⟨w.heap.size + 1, 0, none⟩) (by show w.heap.size + 1 < _; omega) (.slice (some ⟨g, 0, none⟩) ps.length cap))
      injection e with e1 e2 e3
      subst e1
      exact hs
    · obtain ⟨q, rfl⟩ := Int.eq_ofNat_of_zero_le (show 0 ≤ av by omega)
      have hq : q < ps.length := by omega
      obtain ⟨b, o, rfl, hbb, hc⟩ := slI_at (HW.out.below hb (Nat.le_refl _)) hq
      obtain ⟨gk', rfl, hup'⟩ := JT.up_pos HU.out hq
      have hgo' := HGO.out
      rw [JT.rerootGo_step hq] at hgo'
      have hvq := HV.out ps[q] (List.getElem_mem hq)
      have hqo : q < out.length := by rw [HOL.out]; exact hq
      have hcq := own_cell27 HO.out (j := q) (by simpa using hqo)
      have hfq := HO.out.frozenAt q
      have HST := Lib.hid (HO.out.stored q (.int .i64 ab))
      have HU' := Lib.hid hup'
      have HGO' := Lib.hid hgo'
      rw [List.getElem_map] at hcq
      generalize ps[q] = p at *
      generalize out[q] = oq at *
      clear hup' hgo' HU HGO
      go_wp2
      go_roundg gk'
      case measure => omega
      case rel =>
        refine ⟨p, q, out.set q ab, rfl, rfl, by omega, by omega, by omega, by omega, HU'.out, HGO'.out, by rw [List.length_set]; exact HOL.out, ?_, hb.setCell (by show w.heap.size ≤ g; omega) _, by simp [World.setCell]; exact hwz, ?_, ?_, ?_, ?_⟩
        · rw [List.map_set]; exact HST.out.1
        · exact far_cell (by show g ≠ w.heap.size; omega) hc1
        · exact far_cell (by show g ≠ w.heap.size + 1; omega) hc2
        · rw [World.frozen?_setCell]; exact hf2
        · exact far_cell (by show g ≠ w2.heap.size; omega) hc3
end
end Go.Proofs.YthgaflmldbgbnaaGreatDoor

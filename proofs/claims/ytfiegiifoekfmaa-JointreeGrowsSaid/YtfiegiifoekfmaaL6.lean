import Derived.Test.YtfiegiifoekfmaaL2
import Derived.Test.YtfiegiifoekfmaaJGrow
import Derived.Deep.RegionHeld3
import Derived.Deep.DeepCutAuto
import Derived.Deep.AppendLies
namespace Go.Proofs.Ytfiegiifoekfmaa
open Go.RowKit

/-- The law's boxes of its graph and of its pair, and its arguments, in a later world. -/
structure GM (w : World) (N : Int) (EA : Option Addr) (EC : Nat) (es : List Nat) (PA : Option Addr) (ps : List Int) (x y : Nat) (W : World) : Prop where
  c0 : W.cell? ⟨w.heap.size, 0, none⟩ = some (.int .i64 N)
  c1 : W.cell? ⟨w.heap.size, 1, none⟩ = some (.slice EA es.length EC)
  m0 : W.cell? ⟨w.heap.size + 1, 0, none⟩ = some (.int .u32 x)
  m1 : W.cell? ⟨w.heap.size + 1, 1, none⟩ = some (.int .u32 y)
  sE : SlN .u32 w.heap.size W EA es
  sP : SlI .i64 w.heap.size W PA ps
  bel : Below w.heap.size w W
  sz : w.heap.size + 1 < W.heap.size

section
variable {w W W' : World} {N : Int} {EA PA : Option Addr} {EC x y : Nat} {es : List Nat} {ps : List Int}
theorem GM.start (hE : SlN .u32 w.heap.size w EA es) (hP : SlI .i64 w.heap.size w PA ps) : GM w N EA EC es PA ps x y ((w.alloc (.cells #[.int .i64 N, .slice EA es.length EC] 24)).alloc (.cells #[.int .u32 x, .int .u32 y] 45)) := by
  have r := (Row.new w 24 [.int .i64 N, .slice EA es.length EC]).alloc (.cells #[.int .u32 x, .int .u32 y] 45)
  have r2 := Row.new (w.alloc (.cells #[.int .i64 N, .slice EA es.length EC] 24)) 45 [.int .u32 x, .int .u32 y]
  simp only [World.size_alloc] at r2
  exact ⟨r.cell 0, r.cell 1, r2.cell 0, r2.cell 1, (hE.alloc (Nat.le_refl _) _).alloc (by simp) _, (hP.alloc (Nat.le_refl _) _).alloc (by simp) _, ((Below.refl _ _).alloc (Nat.le_refl _) _).alloc (by simp) _, by simp⟩
theorem GM.keep {C : Nat} (h : GM w N EA EC es PA ps x y W) (hb : Below C W W') (hC : w.heap.size + 1 < C) : GM w N EA EC es PA ps x y W' := by
  have hs := h.sz
  exact ⟨(hb.cell (p := ⟨w.heap.size, 0, none⟩) (by show w.heap.size < C; omega)).trans h.c0, (hb.cell (p := ⟨w.heap.size, 1, none⟩) (by show w.heap.size < C; omega)).trans h.c1,
    (hb.cell (p := ⟨w.heap.size + 1, 0, none⟩) hC).trans h.m0, (hb.cell (p := ⟨w.heap.size + 1, 1, none⟩) hC).trans h.m1,
    h.sE.below hb (by omega), h.sP.below hb (by omega), Below.then h.bel hb (by omega), Nat.lt_of_lt_of_le hs hb.size⟩
theorem GM.next (h : GM w N EA EC es PA ps x y W) (hb : Below W.heap.size W W') : GM w N EA EC es PA ps x y W' := h.keep hb h.sz
theorem GM.alloc (h : GM w N EA EC es PA ps x y W) (o : Obj) : GM w N EA EC es PA ps x y (W.alloc o) := h.next ((Below.refl _ _).alloc (Nat.le_refl _) o)
theorem GM.drew (h : GM w N EA EC es PA ps x y W) : GM w N EA EC es PA ps x y W.drew := h.next (Below.refl _ _).drew
theorem GM.E (h : GM w N EA EC es PA ps x y W) : SlN .u32 W.heap.size W EA es := h.sE.more (by have := h.sz; omega)
theorem GM.P (h : GM w N EA EC es PA ps x y W) : SlI .i64 W.heap.size W PA ps := h.sP.more (by have := h.sz; omega)
end

/-- append of one number to a row of the call's own, at a step of a region that draws its order. -/
theorem step1U32 {w : World} {ops : Array Oper} {o : Oper} {a : Act} {K : Act → World → Prop} {Q : Exit → Act → World → Prop} {E : Prop} (hgd : o.guard = none) (s x : Operand)
    (ho : o.op = .call { callee := .builtin .append, args := #[s, x], argTypes := #[22, 22] })
    (base : Nat) (v : Value) (n : Nat) (xs : List Value) (hs : a.eval s = v) (hown : w.ownsRow base 44 1 v n xs)
    (gt : Nat) (z : Int) (hx : a.eval x = .slice (some ⟨gt, 0, none⟩) 1 1) (hg : w.cell? ⟨gt, 0, none⟩ = some (.int .u32 z))
    (hn : n ≤ 100000000) (hbase : base ≤ w.heap.size)
    (h : ∀ g cap w', w'.ownsRow base 44 1 (.slice (some ⟨g, 0, none⟩) (n + 1) cap) (n + 1) (xs ++ [.int .u32 z]) → w.grownBy w' v.ownBlock → (v.ownBlock = some g ∨ g = w.heap.size) → g < w'.heap.size → K (a.put o.dst (.slice (some ⟨g, 0, none⟩) (n + 1) cap)) w') :
    if Region.wanted o (yielded ops a.tmps) = true then Oper.wp Try.prog o a w K Q else E := by
  obtain ⟨i0, hi0, hz0, hz1, hz2⟩ := info_parts u32Info
  refine step_append_lies w hgd s x 22 ho base 44 i0 _ 1 4 Try.underlying22 hi0 hz0 hz1 hz2 rfl (by decide) v n xs hs hown ⟨gt, 0, none⟩ 1 1 [.int .u32 z] hx rfl ?_ (by simp [Value.oneCell']) (by decide) (by simp only [maxLen]; omega) (by omega) hbase w.heap.size rfl h
  intro j u hu
  cases j with
  | zero => simp at hu; subst hu; exact hg
  | succ j => simp at hu

/-- What the statement that makes the larger graph leaves: slot 8 points to it. -/
def GrowRel (w : World) (n : Nat) (EA : Option Addr) (EC : Nat) (es : List Nat) (PA : Option Addr) (ps : List Int) (x y cc lo : Nat) (b8 : Value) (wx : World) : Prop :=
  ∃ (gb : Nat) (A6 : Option Addr) (c6 : Nat), b8 = .pointer (some ⟨gb, 0, none⟩) ∧ wx.cell? ⟨gb, 0, none⟩ = some (.int .i64 n) ∧ wx.cell? ⟨gb, 1, none⟩ = some (.slice A6 (es.length + 1) c6) ∧ gb < wx.heap.size ∧ lo ≤ gb ∧
    SlN .u32 wx.heap.size wx A6 (es ++ [cc]) ∧ GM w n EA EC es PA ps x y wx

section
variable {w w6 : World} {n EC x y cc lo g6 cap6 base : Nat} {EA PA : Option Addr} {es : List Nat} {ps : List Int}
theorem grow_leaf (hG : GM w n EA EC es PA ps x y w6) (hlo : w.heap.size + 1 < lo) (hown : w6.ownsRow base 44 1 (.slice (some ⟨g6, 0, none⟩) (es.length + 1) cap6) (es.length + 1) (u32V es ++ [.int .u32 cc])) {T : Nat} {u0 u1 : Value} (hT : lo ≤ T) (hTl : T < w6.heap.size) (hne : g6 ≠ T) (h0 : w6.cell? ⟨T, 0, none⟩ = some u0) (h1 : w6.cell? ⟨T, 1, none⟩ = some u1) :
    GrowRel w n EA EC es PA ps x y cc lo (.pointer (some ⟨T, 0, none⟩)) ((w6.setCell ⟨T, 0, none⟩ (.int .i64 n)).setCell ⟨T, 1, none⟩ (.slice (some ⟨g6, 0, none⟩) (es.length + 1) cap6)) := by
  have e0 : (w6.setCell ⟨T, 0, none⟩ (.int .i64 n)).cell? ⟨T, 0, none⟩ = some (.int .i64 n) := World.cell?_setCell_same _ _ _ h0
  have e1 : (w6.setCell ⟨T, 0, none⟩ (.int .i64 n)).cell? ⟨T, 1, none⟩ = some u1 := (World.cell?_setCell_other _ _ _ _ (by simp)).trans h1
  have hb : Below lo w6 ((w6.setCell ⟨T, 0, none⟩ (.int .i64 n)).setCell ⟨T, 1, none⟩ (.slice (some ⟨g6, 0, none⟩) (es.length + 1) cap6)) := ((Below.refl _ _).setCell (p := ⟨T, 0, none⟩) hT _).setCell (p := ⟨T, 1, none⟩) hT _
  refine ⟨T, _, _, rfl, (World.cell?_setCell_other _ _ _ _ (by simp)).trans e0, World.cell?_setCell_same _ _ _ e1, by simpa using hTl, hT, ?_, hG.keep hb hlo⟩
  have h2 := own_far (own_far hown (p := ⟨T, 0, none⟩) (by simpa [Value.ownBlock] using hne) (.int .i64 n)) (p := ⟨T, 1, none⟩) (by simpa [Value.ownBlock] using hne) (.slice (some ⟨g6, 0, none⟩) (es.length + 1) cap6)
  have h3 := own_sl h2
  simpa [SlN, u32V] using h3
theorem grow_leaf_new (hG : GM w n EA EC es PA ps x y w6) (hlo2 : lo ≤ w6.heap.size) (hown : w6.ownsRow base 44 1 (.slice (some ⟨g6, 0, none⟩) (es.length + 1) cap6) (es.length + 1) (u32V es ++ [.int .u32 cc])) :
    GrowRel w n EA EC es PA ps x y cc lo (.pointer (some ⟨w6.heap.size, 0, none⟩)) (w6.alloc (.cells #[.int .i64 n, .slice (some ⟨g6, 0, none⟩) (es.length + 1) cap6] 24)) := by
  have r := Row.new w6 24 [.int .i64 n, .slice (some ⟨g6, 0, none⟩) (es.length + 1) cap6]
  refine ⟨w6.heap.size, _, _, rfl, r.cell 0, r.cell 1, by simp, hlo2, ?_, hG.alloc _⟩
  have h3 := own_sl (hown.alloc (.cells #[.int .i64 n, .slice (some ⟨g6, 0, none⟩) (es.length + 1) cap6] 24))
  simpa [SlN, u32V] using h3
theorem app_kept0 {w w' : World} {v : Value} {B : Nat} (hv : ∀ k, v.ownBlock = some k → B ≤ k) (hB : B ≤ w.heap.size) (hg : w.grownBy w' v.ownBlock) : Below B w w' := (Below.refl B w).grown hg hB hv
end

/-- The larger graph and the larger tree as they lie in memory. -/
structure GR (w : World) (N : Int) (EA : Option Addr) (EC : Nat) (es : List Nat) (PA : Option Addr) (ps : List Int) (x y : Nat) (gb gt : Nat) (A6 A9 : Option Addr) (c6 c9 l6 l9 : Nat) (es2 : List Nat) (ps2 : List Int) (W : World) : Prop where
  gm : GM w N EA EC es PA ps x y W
  h0 : W.cell? ⟨gb, 0, none⟩ = some (.int .i64 N)
  h1 : W.cell? ⟨gb, 1, none⟩ = some (.slice A6 l6 c6)
  t0 : W.cell? ⟨gt, 0, none⟩ = some (.slice A9 l9 c9)
  s6 : SlN .u32 W.heap.size W A6 es2
  s9 : SlI .i64 W.heap.size W A9 ps2
  lb : gb < W.heap.size
  lt : gt < W.heap.size
theorem GR.next {w W W' : World} {N : Int} {EA PA A6 A9 : Option Addr} {EC x y gb gt c6 c9 l6 l9 : Nat} {es es2 : List Nat} {ps ps2 : List Int} (h : GR w N EA EC es PA ps x y gb gt A6 A9 c6 c9 l6 l9 es2 ps2 W) (hb : Below W.heap.size W W') : GR w N EA EC es PA ps x y gb gt A6 A9 c6 c9 l6 l9 es2 ps2 W' :=
  ⟨h.gm.next hb, (hb.cell (p := ⟨gb, 0, none⟩) h.lb).trans h.h0, (hb.cell (p := ⟨gb, 1, none⟩) h.lb).trans h.h1, (hb.cell (p := ⟨gt, 0, none⟩) h.lt).trans h.t0, (h.s6.below hb (Nat.le_refl _)).more hb.size, (h.s9.below hb (Nat.le_refl _)).more hb.size, Nat.lt_of_lt_of_le h.lb hb.size, Nat.lt_of_lt_of_le h.lt hb.size⟩

set_option maxHeartbeats 4000000 in
set_option maxRecDepth 100000 in
theorem grows_walk (N : Int) (EA PA : Option Addr) (EC PC : Nat) (es : List Nat) (ps : List Int) (x y : Nat) (w : World)
   (hE : SlN .u32 w.heap.size w EA es) (hu : JT.U32 es) (hP : SlI .i64 w.heap.size w PA ps) (hel : es.length ≤ 9223372036854775807) (hpl : ps.length ≤ 9223372036854775807) (hx : x ≤ 4294967295) (hy : y ≤ 4294967295) :
    Calls Try.prog 7 #[.agg #[.int .i64 N, .slice EA es.length EC], .slice PA ps.length PC, .agg #[.int .u32 x, .int .u32 y]] w fun e w' => e = .returned (.bool true) ∧ Below w.heap.size w w' := by
  have H0 := Lib.hid (GM.start (N := N) (EC := EC) (x := x) (y := y) hE hP)
  have HU := Lib.hid hu
  clear hE hP hu
  go_enter Try.func7, Try.ntmps7
  go_wp2_with fail
  refine (great_any N EA es.length EC _ hel).mono ?_
  rintro e w1 ⟨rfl, hb1⟩
  have H1 := Lib.hid (H0.out.next hb1)
  clear hb1 H0
  by_cases h1 : 12 < es.length
  · have hd : decide (12 < es.length) = true := by simpa using h1
    rw [hd]
    clear hd
    go_wp2_with fail
    refine (awake_any _).mono ?_
    rintro e w2 ⟨rfl, hb2⟩
    have H2 := Lib.hid (H1.out.next hb2)
    clear hb2
    go_wp2
    go_ret
    exact ⟨rfl, H2.out.bel⟩
  have hd : decide (12 < es.length) = false := by simpa using h1
  rw [hd]
  clear hd
  by_cases h2 : 12 < ps.length
  · go_wp2_with fail
    refine (awake_any _).mono ?_
    rintro e w2 ⟨rfl, hb2⟩
    have H2 := Lib.hid (H1.out.next hb2)
    clear hb2
    go_wp2
    go_ret
    exact ⟨rfl, H2.out.bel⟩
  have hel2 : es.length ≤ 1000000 := by omega
  have hpl2 : ps.length ≤ 1000000 := by omega
  have hsz := H1.out.sz
  have hc0 := H1.out.c0
  have hc1 := H1.out.c1
  by_cases hm : es.length = 0
  · have hs0 : ((es.length : Int) == 0) = true := by simp; exact List.eq_nil_of_length_eq_zero hm
    clear hm
    go_wp2_with fail
    refine (awake_any _).mono ?_
    rintro e w2 ⟨rfl, hb2⟩
    have H2 := Lib.hid (H1.out.next hb2)
    clear hb2
    go_wp2
    go_ret
    exact ⟨rfl, H2.out.bel⟩
  have hs0 : ((es.length : Int) == 0) = false := beq_eq_false_iff_ne.2 (by omega)
  have hm0 : 0 < es.length := by omega
  clear hm
  go_wp2_with fail
  refine (jtCheck_any N EA PA EC PC es ps _ H1.out.E HU.out H1.out.P hel2 hpl2).mono ?_
  rintro e w3 ⟨rfl, hb3⟩
  have H3 := Lib.hid (H1.out.next hb3)
  clear hb3 H1 hc0 hc1 hsz
  by_cases h3 : JT.chkF N es ps = 0
  rotate_left
  · have hs : (JT.chkF N es ps != 0) = true := by simpa using h3
    generalize JT.chkF N es ps = q at *
    clear h3
    go_wp2_with fail
    refine (awake_any _).mono ?_
    rintro e w4 ⟨rfl, hb4⟩
    have H4 := Lib.hid (H3.out.next hb4)
    clear hb4
    go_wp2
    go_ret
    exact ⟨rfl, H4.out.bel⟩
  have hg : JT.hgCheckF N es = 0 := by
    refine Classical.byContradiction fun h => ?_
    rw [JT.chkF_hg h] at h3; exact h h3
  obtain ⟨n, rfl, hn, -, -⟩ := JT.hgCheckF_zero hg
  have HCH := Lib.hid h3
  rw [h3]
  clear h3 hg
  have hc0 := H3.out.c0
  have hc1 := H3.out.c1
  have hm0' := H3.out.m0
  have hm1' := H3.out.m1
  have hsz := H3.out.sz
  obtain ⟨a, ha⟩ : ∃ a, a = x % es.length := ⟨_, rfl⟩
  have hal : a < es.length := by rw [ha]; exact Nat.mod_lt _ hm0
  have hat : wrap64 ((x : Int) % (es.length : Int)) = (a : Int) := by
    rw [ha, IntWalk.wrap64_in _ ⟨by omega, by omega⟩]; simp
  have hat2 : IntKind.i64.wrap ((x : Int) % (es.length : Int)) = (a : Int) := by rw [IntKind.wrap_i64]; have h : wrap64 ((x : Int) % (es.length : Int)) = (a : Int) := hat; unfold wrap64 at h; exact h
  have hd12 : decide (12 < (ps.length : Int)) = false := by simp; omega
  obtain ⟨b, o, rfl, hbb, hce⟩ := slN_at H3.out.sE hal
  have hgr := JT.grow_ok (x := y) HCH.out (by omega) hal
  have hue : es[a] ≤ 4294967295 := HU.out _ (List.getElem_mem hal)
  generalize hea : es[a] = ea at *
  have HBIT := Lib.hid (u32_and_nat ea y (by omega) (by omega))
  have hby : bits .and .u32 (ea : Int) (y : Int) = ((ea &&& y : Nat) : Int) := HBIT.out
  have hcl : ea &&& y ≤ 4294967295 := Nat.le_trans Nat.and_le_left hue
  generalize hcc : ea &&& y = cc at *
  have HEA := Lib.hid hea
  have HGR := Lib.hid hgr
  clear ha hea hcc hgr HBIT
  have hszl : w.heap.size < w3.heap.size := by omega
  have hbl : b < w3.heap.size := by omega
  go_upto_region 6 with (fail)
  go_cut [8] (GrowRel w n (some ⟨b, o, none⟩) EC es PA ps x y cc w3.heap.size)
  case first =>
    go_region_held3 (fun w' => w'.cell? ⟨w.heap.size, 0, none⟩ = some (.int .i64 n) ∧ w'.cell? ⟨w.heap.size, 1, none⟩ = some (.slice (some ⟨b, o, none⟩) es.length EC) ∧ w'.cell? ⟨w.heap.size + 1, 1, none⟩ = some (.int .u32 y) ∧ w'.cell? ⟨b, o + a, none⟩ = some (.int .u32 ea)) (first | exact ⟨j0, j1, j2, j3⟩ | exact ⟨k0, k1, k2, k3⟩ | (refine ⟨far_cell ?_ (far_cell ?_ j0), far_cell ?_ (far_cell ?_ j1), far_cell ?_ (far_cell ?_ j2), far_cell ?_ (far_cell ?_ j3)⟩ <;> first | (simp; done) | (simp; omega)) | go_keep)
      (
      first
        | (go_at_call 23; (with_reducible refine (cloneN_any (some ⟨b, o, none⟩) EC es (w3.drew) ?_ hel2 hm0).mono ?_); (exact H3.out.drew.E); rintro e w5 ⟨gc, capc, rfl, hgc1, hgc2, hownc, hbc⟩
           have hszc := hbc.size
           simp at hszc hgc1
           have G5 := Lib.hid (H3.out.drew.next hbc)
           have k0 := G5.out.c0
           have k1 := G5.out.c1
           have k2 := G5.out.m1
           have k3 : w5.cell? ⟨b, o + a, none⟩ = some (.int .u32 ea) := (hbc.cell (p := ⟨b, o + a, none⟩) (by first | (simp; done) | (simp; omega))).trans (by go_simp)
           have HOW := Lib.hid (own_weaken hownc (show w3.heap.size ≤ _ by simp))
           have l0 : w.heap.size < w5.heap.size := by omega
           have l1 : w.heap.size + 1 < w5.heap.size := by omega
           have l2 : b < w5.heap.size := by omega
           clear hbc hownc)
        | (go_at_call 23; (with_reducible refine (cloneN_any (some ⟨b, o, none⟩) EC es ((w3.alloc (.cells #[.int .i64 0, .slice none 0 0] 24)).drew) ?_ hel2 hm0).mono ?_); (exact (H3.out.alloc _).drew.E); rintro e w5 ⟨gc, capc, rfl, hgc1, hgc2, hownc, hbc⟩
           have hszc := hbc.size
           simp at hszc hgc1
           have G5 := Lib.hid ((H3.out.alloc _).drew.next hbc)
           have k0 := G5.out.c0
           have k1 := G5.out.c1
           have k2 := G5.out.m1
           have k3 : w5.cell? ⟨b, o + a, none⟩ = some (.int .u32 ea) := (hbc.cell (p := ⟨b, o + a, none⟩) (by first | (simp; done) | (simp; omega))).trans (by go_simp)
           have HOW := Lib.hid (own_weaken hownc (show w3.heap.size ≤ _ by first | (simp; done) | (simp; omega)))
           have l0 : w.heap.size < w5.heap.size := by omega
           have l1 : w.heap.size + 1 < w5.heap.size := by omega
           have l2 : b < w5.heap.size := by omega
           have mA0 : True := trivial
           have lA : w3.heap.size < w5.heap.size := by omega
           have hA0 : w5.cell? ⟨w3.heap.size, 0, none⟩ = some (.int .i64 0) := (hbc.cell (p := ⟨w3.heap.size, 0, none⟩) (by first | (simp; done) | (simp; omega))).trans (by go_simp)
           have hA1 : w5.cell? ⟨w3.heap.size, 1, none⟩ = some (.slice none 0 0) := (hbc.cell (p := ⟨w3.heap.size, 1, none⟩) (by first | (simp; done) | (simp; omega))).trans (by go_simp)
           have hA2 : w5.frozen? ⟨w3.heap.size, 0, none⟩ = false := (hbc.frozen (p := ⟨w3.heap.size, 0, none⟩) (by first | (simp; done) | (simp; omega))).trans (by go_simp)
           have hA3 : w5.frozen? ⟨w3.heap.size, 1, none⟩ = false := (hbc.frozen (p := ⟨w3.heap.size, 1, none⟩) (by first | (simp; done) | (simp; omega))).trans (by go_simp)
           clear hbc hownc)
        | (go_at_call 23; (with_reducible refine (cloneN_any (some ⟨b, o, none⟩) EC es ((w3.alloc (.cells #[.int .u32 (cc : Int)] 44)).drew) ?_ hel2 hm0).mono ?_); (exact (H3.out.alloc _).drew.E); rintro e w5 ⟨gc, capc, rfl, hgc1, hgc2, hownc, hbc⟩
           have hszc := hbc.size
           simp at hszc hgc1
           have G5 := Lib.hid ((H3.out.alloc _).drew.next hbc)
           have k0 := G5.out.c0
           have k1 := G5.out.c1
           have k2 := G5.out.m1
           have k3 : w5.cell? ⟨b, o + a, none⟩ = some (.int .u32 ea) := (hbc.cell (p := ⟨b, o + a, none⟩) (by first | (simp; done) | (simp; omega))).trans (by go_simp)
           have HOW := Lib.hid (own_weaken hownc (show w3.heap.size ≤ _ by first | (simp; done) | (simp; omega)))
           have l0 : w.heap.size < w5.heap.size := by omega
           have l1 : w.heap.size + 1 < w5.heap.size := by omega
           have l2 : b < w5.heap.size := by omega
           have lB : w3.heap.size < w5.heap.size := by omega
           have hB : w5.cell? ⟨w3.heap.size, 0, none⟩ = some (.int .u32 cc) := (hbc.cell (p := ⟨w3.heap.size, 0, none⟩) (by first | (simp; done) | (simp; omega))).trans (by go_simp)
           clear hbc hownc)
        | (go_at_call 23; (with_reducible refine (cloneN_any (some ⟨b, o, none⟩) EC es (((w3.alloc (.cells #[.int .i64 0, .slice none 0 0] 24)).alloc (.cells #[.int .u32 (cc : Int)] 44)).drew) ?_ hel2 hm0).mono ?_); (exact ((H3.out.alloc _).alloc _).drew.E); rintro e w5 ⟨gc, capc, rfl, hgc1, hgc2, hownc, hbc⟩
           have hszc := hbc.size
           simp at hszc hgc1
           have G5 := Lib.hid (((H3.out.alloc _).alloc _).drew.next hbc)
           have k0 := G5.out.c0
           have k1 := G5.out.c1
           have k2 := G5.out.m1
           have k3 : w5.cell? ⟨b, o + a, none⟩ = some (.int .u32 ea) := (hbc.cell (p := ⟨b, o + a, none⟩) (by first | (simp; done) | (simp; omega))).trans (by go_simp)
           have HOW := Lib.hid (own_weaken hownc (show w3.heap.size ≤ _ by first | (simp; done) | (simp; omega)))
           have l0 : w.heap.size < w5.heap.size := by omega
           have l1 : w.heap.size + 1 < w5.heap.size := by omega
           have l2 : b < w5.heap.size := by omega
           have mA0 : True := trivial
           have lA : w3.heap.size < w5.heap.size := by omega
           have hA0 : w5.cell? ⟨w3.heap.size, 0, none⟩ = some (.int .i64 0) := (hbc.cell (p := ⟨w3.heap.size, 0, none⟩) (by first | (simp; done) | (simp; omega))).trans (by go_simp)
           have hA1 : w5.cell? ⟨w3.heap.size, 1, none⟩ = some (.slice none 0 0) := (hbc.cell (p := ⟨w3.heap.size, 1, none⟩) (by first | (simp; done) | (simp; omega))).trans (by go_simp)
           have hA2 : w5.frozen? ⟨w3.heap.size, 0, none⟩ = false := (hbc.frozen (p := ⟨w3.heap.size, 0, none⟩) (by first | (simp; done) | (simp; omega))).trans (by go_simp)
           have hA3 : w5.frozen? ⟨w3.heap.size, 1, none⟩ = false := (hbc.frozen (p := ⟨w3.heap.size, 1, none⟩) (by first | (simp; done) | (simp; omega))).trans (by go_simp)
           have lB : w3.heap.size + 1 < w5.heap.size := by omega
           have hB : w5.cell? ⟨w3.heap.size + 1, 0, none⟩ = some (.int .u32 cc) := (hbc.cell (p := ⟨w3.heap.size + 1, 0, none⟩) (by first | (simp; done) | (simp; omega))).trans (by go_simp)
           clear hbc hownc)
        | (go_at_call 23; (with_reducible refine (cloneN_any (some ⟨b, o, none⟩) EC es (((w3.alloc (.cells #[.int .u32 (cc : Int)] 44)).alloc (.cells #[.int .i64 0, .slice none 0 0] 24)).drew) ?_ hel2 hm0).mono ?_); (exact ((H3.out.alloc _).alloc _).drew.E); rintro e w5 ⟨gc, capc, rfl, hgc1, hgc2, hownc, hbc⟩
           have hszc := hbc.size
           simp at hszc hgc1
           have G5 := Lib.hid (((H3.out.alloc _).alloc _).drew.next hbc)
           have k0 := G5.out.c0
           have k1 := G5.out.c1
           have k2 := G5.out.m1
           have k3 : w5.cell? ⟨b, o + a, none⟩ = some (.int .u32 ea) := (hbc.cell (p := ⟨b, o + a, none⟩) (by first | (simp; done) | (simp; omega))).trans (by go_simp)
           have HOW := Lib.hid (own_weaken hownc (show w3.heap.size ≤ _ by first | (simp; done) | (simp; omega)))
           have l0 : w.heap.size < w5.heap.size := by omega
           have l1 : w.heap.size + 1 < w5.heap.size := by omega
           have l2 : b < w5.heap.size := by omega
           have lB : w3.heap.size < w5.heap.size := by omega
           have hB : w5.cell? ⟨w3.heap.size, 0, none⟩ = some (.int .u32 cc) := (hbc.cell (p := ⟨w3.heap.size, 0, none⟩) (by first | (simp; done) | (simp; omega))).trans (by go_simp)
           have mA1 : True := trivial
           have lA : w3.heap.size + 1 < w5.heap.size := by omega
           have hA0 : w5.cell? ⟨w3.heap.size + 1, 0, none⟩ = some (.int .i64 0) := (hbc.cell (p := ⟨w3.heap.size + 1, 0, none⟩) (by first | (simp; done) | (simp; omega))).trans (by go_simp)
           have hA1 : w5.cell? ⟨w3.heap.size + 1, 1, none⟩ = some (.slice none 0 0) := (hbc.cell (p := ⟨w3.heap.size + 1, 1, none⟩) (by first | (simp; done) | (simp; omega))).trans (by go_simp)
           have hA2 : w5.frozen? ⟨w3.heap.size + 1, 0, none⟩ = false := (hbc.frozen (p := ⟨w3.heap.size + 1, 0, none⟩) (by first | (simp; done) | (simp; omega))).trans (by go_simp)
           have hA3 : w5.frozen? ⟨w3.heap.size + 1, 1, none⟩ = false := (hbc.frozen (p := ⟨w3.heap.size + 1, 1, none⟩) (by first | (simp; done) | (simp; omega))).trans (by go_simp)
           clear hbc hownc)
        | (refine step1U32 rfl (.tmp 44) (.tmp 53) rfl w3.heap.size (.slice (some ⟨gc, 0, none⟩) es.length capc) es.length (u32V es) rfl (by first | exact HOW.out | exact HOW.out.alloc _ | exact (HOW.out.alloc _).alloc _) _ cc rfl (by go_simp) (by omega) (by first | (simp; omega) | omega) ?_
           intro g6 cap6 w6 hown6 hgrow6 hat6 hlt6
           simp [Value.ownBlock] at hgrow6 hat6
           have HAT := Lib.hid hat6
           have hb6 : Below w3.heap.size w5 w6 := by first | exact app_kept0 (v := .slice (some ⟨gc, 0, none⟩) es.length capc) (by simp [Value.ownBlock]; omega) (by omega) hgrow6 | exact app_kept (v := .slice (some ⟨gc, 0, none⟩) es.length capc) (by simp [Value.ownBlock]; omega) (by omega) hgrow6 | exact app_kept2 (v := .slice (some ⟨gc, 0, none⟩) es.length capc) (by simp [Value.ownBlock]; omega) (by omega) hgrow6
           have hsz6 := hb6.size
           have hgsz := hgrow6.size
           try simp at hgsz
           have G6 := Lib.hid (G5.out.keep hb6 (by omega))
           have HO6 := Lib.hid hown6
           have j0 := G6.out.c0
           have j1 := G6.out.c1
           have j2 := G6.out.m1
           have j3 : w6.cell? ⟨b, o + a, none⟩ = some (.int .u32 ea) := (hb6.cell (p := ⟨b, o + a, none⟩) hbl).trans k3
           have l3 : w.heap.size < w6.heap.size := by omega
           have l4 : w.heap.size + 1 < w6.heap.size := by omega
           have l5 : b < w6.heap.size := by omega
           first
             | (have _m := mA0; have z0 : w6.cell? ⟨w3.heap.size, 0, none⟩ = some (.int .i64 0) := (grown_cell hgrow6 (p := ⟨w3.heap.size, 0, none⟩) (by first | (simp; done) | (simp; omega)) (by first | (simp; done) | (simp; omega))).trans (by go_simp); have z1 : w6.cell? ⟨w3.heap.size, 1, none⟩ = some (.slice none 0 0) := (grown_cell hgrow6 (p := ⟨w3.heap.size, 1, none⟩) (by first | (simp; done) | (simp; omega)) (by first | (simp; done) | (simp; omega))).trans (by go_simp); have z2 : w6.frozen? ⟨w3.heap.size, 0, none⟩ = false := (World.frozen?_of_block (hgrow6.block _ (by first | (simp; done) | (simp; omega)) (by first | (simp; done) | (simp; omega)))).trans (by go_simp); have z3 : w6.frozen? ⟨w3.heap.size, 1, none⟩ = false := (World.frozen?_of_block (hgrow6.block _ (by first | (simp; done) | (simp; omega)) (by first | (simp; done) | (simp; omega)))).trans (by go_simp); have z4 : w3.heap.size < w6.heap.size := by omega)
             | (have _m := mA1; have z0 : w6.cell? ⟨w3.heap.size + 1, 0, none⟩ = some (.int .i64 0) := (grown_cell hgrow6 (p := ⟨w3.heap.size + 1, 0, none⟩) (by first | (simp; done) | (simp; omega)) (by first | (simp; done) | (simp; omega))).trans (by go_simp); have z1 : w6.cell? ⟨w3.heap.size + 1, 1, none⟩ = some (.slice none 0 0) := (grown_cell hgrow6 (p := ⟨w3.heap.size + 1, 1, none⟩) (by first | (simp; done) | (simp; omega)) (by first | (simp; done) | (simp; omega))).trans (by go_simp); have z2 : w6.frozen? ⟨w3.heap.size + 1, 0, none⟩ = false := (World.frozen?_of_block (hgrow6.block _ (by first | (simp; done) | (simp; omega)) (by first | (simp; done) | (simp; omega)))).trans (by go_simp); have z3 : w6.frozen? ⟨w3.heap.size + 1, 1, none⟩ = false := (World.frozen?_of_block (hgrow6.block _ (by first | (simp; done) | (simp; omega)) (by first | (simp; done) | (simp; omega)))).trans (by go_simp); have z4 : w3.heap.size + 1 < w6.heap.size := by omega)
             | (have _q : (w5.alloc (.cells #[.int .i64 0, .slice none 0 0] 24)).grownBy w6 (some gc) := hgrow6; have z0 : w6.cell? ⟨w5.heap.size, 0, none⟩ = some (.int .i64 0) := (grown_cell hgrow6 (p := ⟨w5.heap.size, 0, none⟩) (by first | (simp; done) | (simp; omega)) (by first | (simp; done) | (simp; omega))).trans (by go_simp); have z1 : w6.cell? ⟨w5.heap.size, 1, none⟩ = some (.slice none 0 0) := (grown_cell hgrow6 (p := ⟨w5.heap.size, 1, none⟩) (by first | (simp; done) | (simp; omega)) (by first | (simp; done) | (simp; omega))).trans (by go_simp); have z2 : w6.frozen? ⟨w5.heap.size, 0, none⟩ = false := (World.frozen?_of_block (hgrow6.block _ (by first | (simp; done) | (simp; omega)) (by first | (simp; done) | (simp; omega)))).trans (by go_simp); have z3 : w6.frozen? ⟨w5.heap.size, 1, none⟩ = false := (World.frozen?_of_block (hgrow6.block _ (by first | (simp; done) | (simp; omega)) (by first | (simp; done) | (simp; omega)))).trans (by go_simp); have z4 : w5.heap.size < w6.heap.size := by omega)
             | (have _q : ((w5.alloc (.cells #[.int .i64 0, .slice none 0 0] 24)).alloc (.cells #[.int .u32 (cc : Int)] 44)).grownBy w6 (some gc) := hgrow6; have z0 : w6.cell? ⟨w5.heap.size, 0, none⟩ = some (.int .i64 0) := (grown_cell hgrow6 (p := ⟨w5.heap.size, 0, none⟩) (by first | (simp; done) | (simp; omega)) (by first | (simp; done) | (simp; omega))).trans (by go_simp); have z1 : w6.cell? ⟨w5.heap.size, 1, none⟩ = some (.slice none 0 0) := (grown_cell hgrow6 (p := ⟨w5.heap.size, 1, none⟩) (by first | (simp; done) | (simp; omega)) (by first | (simp; done) | (simp; omega))).trans (by go_simp); have z2 : w6.frozen? ⟨w5.heap.size, 0, none⟩ = false := (World.frozen?_of_block (hgrow6.block _ (by first | (simp; done) | (simp; omega)) (by first | (simp; done) | (simp; omega)))).trans (by go_simp); have z3 : w6.frozen? ⟨w5.heap.size, 1, none⟩ = false := (World.frozen?_of_block (hgrow6.block _ (by first | (simp; done) | (simp; omega)) (by first | (simp; done) | (simp; omega)))).trans (by go_simp); have z4 : w5.heap.size < w6.heap.size := by omega)
             | (have _q : ((w5.alloc (.cells #[.int .u32 (cc : Int)] 44)).alloc (.cells #[.int .i64 0, .slice none 0 0] 24)).grownBy w6 (some gc) := hgrow6; have z0 : w6.cell? ⟨w5.heap.size + 1, 0, none⟩ = some (.int .i64 0) := (grown_cell hgrow6 (p := ⟨w5.heap.size + 1, 0, none⟩) (by first | (simp; done) | (simp; omega)) (by first | (simp; done) | (simp; omega))).trans (by go_simp); have z1 : w6.cell? ⟨w5.heap.size + 1, 1, none⟩ = some (.slice none 0 0) := (grown_cell hgrow6 (p := ⟨w5.heap.size + 1, 1, none⟩) (by first | (simp; done) | (simp; omega)) (by first | (simp; done) | (simp; omega))).trans (by go_simp); have z2 : w6.frozen? ⟨w5.heap.size + 1, 0, none⟩ = false := (World.frozen?_of_block (hgrow6.block _ (by first | (simp; done) | (simp; omega)) (by first | (simp; done) | (simp; omega)))).trans (by go_simp); have z3 : w6.frozen? ⟨w5.heap.size + 1, 1, none⟩ = false := (World.frozen?_of_block (hgrow6.block _ (by first | (simp; done) | (simp; omega)) (by first | (simp; done) | (simp; omega)))).trans (by go_simp); have z4 : w5.heap.size + 1 < w6.heap.size := by omega)
             | skip
           clear hat6 hown6 hgrow6 hb6)
        | fail)
    all_goals
      go_wp2_with fail
      go_meet
      first
        | exact grow_leaf_new G6.out (by omega) HO6.out
        | exact grow_leaf G6.out hsz HO6.out (by omega) z4 (by have := HAT.out; omega) z0 z1
  case rest =>
    obtain ⟨gb, A6, c6, rfl, hb0, hb1, hgbl, hgb3, hsl6, hG6⟩ := hcut
    have G6 := Lib.hid hG6
    have HS6 := Lib.hid hsl6
    have hszc := hG6.sz
    have lgb : w.heap.size + 1 < gb := by omega
    have hlps : ps.length = es.length := by
      refine Classical.byContradiction fun h => ?_
      have hg : JT.hgCheckF n es = 0 := by
        refine Classical.byContradiction fun h2 => ?_
        have := HCH.out
        rw [JT.chkF_hg h2] at this; exact h2 this
      have := HCH.out
      rw [JT.chkF_len hg h] at this; omega
    have hpp0 : 0 < ps.length := by omega
    have HLPS := Lib.hid hlps
    clear hG6 hsl6 H3 hc0 hc1 hm0' hm1' hce hat hat2 hlps
    go_wp2_with fail
    refine (cloneInt_any PA PC ps _ G6.out.P hpl2).mono ?_
    rintro e w7 ⟨v7, rfl, hown7, hb7⟩
    have G7 := Lib.hid (G6.out.next hb7)
    have HS7 := Lib.hid (HS6.out.below hb7 (Nat.le_refl _))
    have hq0 := (hb7.cell (p := ⟨gb, 0, none⟩) hgbl).trans hb0
    have hq1 := (hb7.cell (p := ⟨gb, 1, none⟩) hgbl).trans hb1
    have lw7 := hb7.size
    have HO7 := Lib.hid hown7
    have HUB := Lib.hid (fun k hk => own_base hown7 (k := k) hk)
    clear hown7 hb7 G6 HS6 hb0 hb1
    go_wp2_with (at_builtin; refine app1Int rfl (.tmp 57) (.tmp 59) rfl wc.heap.size v7 ps.length (ps.map (Value.int .i64)) rfl (by exact HO7.out.alloc _) w7.heap.size (a : Int) rfl (by go_simp) (by omega) (by simp; omega) ?_
                 intro v8 w8 hown8 hg8
                 obtain ⟨g8, cap8, rfl, hg81, hg82, -, hown8⟩ := own_form hown8 (by omega)
                 have hkp : Below wc.heap.size w7 w8 := app_kept HUB.out (by omega) hg8
                 have HKP := Lib.hid hkp
                 have lw8 := hkp.size
                 have HO8 := Lib.hid hown8
                 have hr0 : w8.cell? ⟨gb, 0, none⟩ = some (.int .i64 n) := (hkp.cell (p := ⟨gb, 0, none⟩) hgbl).trans hq0
                 have hr1 : w8.cell? ⟨gb, 1, none⟩ = some (.slice A6 (es.length + 1) c6) := (hkp.cell (p := ⟨gb, 1, none⟩) hgbl).trans hq1
                 have lgb8 : gb < w8.heap.size := by omega
                 clear hkp hown8 hg8 hq0 hq1)
    have hes2 : (es ++ [cc]).length = es.length + 1 := by simp
    have hps2 : (ps ++ [(a : Int)]).length = ps.length + 1 := by simp
    have R8 : Hid (GR w n (some ⟨b, o, none⟩) EC es PA ps x y gb w8.heap.size A6 (some ⟨g8, 0, none⟩) c6 cap8 (es.length + 1) (ps.length + 1) (es ++ [cc]) (ps ++ [(a : Int)]) (w8.alloc (.cells #[.slice (some ⟨g8, 0, none⟩) (ps.length + 1) cap8] 34))) := by
      have hG8 := (G7.out.keep HKP.out (by omega)).alloc (.cells #[.slice (some ⟨g8, 0, none⟩) (ps.length + 1) cap8] 34)
      have h6 := ((HS7.out.below HKP.out (Nat.le_refl _)).alloc (show wc.heap.size ≤ w8.heap.size by omega) (.cells #[.slice (some ⟨g8, 0, none⟩) (ps.length + 1) cap8] 34)).more (show wc.heap.size ≤ (w8.alloc (.cells #[.slice (some ⟨g8, 0, none⟩) (ps.length + 1) cap8] 34)).heap.size by simp; omega)
      have h9 := own_sl (HO8.out.alloc (.cells #[.slice (some ⟨g8, 0, none⟩) (ps.length + 1) cap8] 34))
      have r := Row.new w8 34 [.slice (some ⟨g8, 0, none⟩) (ps.length + 1) cap8]
      exact ⟨hG8, old_cell _ _ lgb8 hr0, old_cell _ _ lgb8 hr1, r.cell 0, h6, by simpa [SlI] using h9, by simp; omega, by simp⟩
    have HB2 : Hid (∀ W, SlN .u32 W.heap.size W A6 (es ++ [cc]) → Calls Try.prog 16 #[.agg #[.int .i64 n, .slice A6 (es.length + 1) c6]] W fun r w' => ∃ A c, r = .returned (.tuple #[.agg #[.slice A (es.length + 1) c], .int .i64 0]) ∧ Below W.heap.size W w') := fun W hW => by
      have hg2 : JT.hgCheckF n (es ++ [cc]) = 0 := by
        refine Classical.byContradiction fun h2 => ?_
        have := HGR.out.1
        rw [JT.chkF_hg h2] at this; exact h2 this
      have hu2 : JT.U32 (es ++ [cc]) := by
        obtain ⟨n', hn', hn32, _, hN⟩ := JT.hgCheckF_zero hg2
        intro e he
        have := hN e he
        have : 2 ^ n' ≤ 2 ^ 32 := Nat.pow_le_pow_right (by omega) hn32
        omega
      have h := build_ok n A6 c6 (es ++ [cc]) W hW hu2 hg2 (by simp) (JT.gyo_complete HGR.out.1)
      rw [hes2] at h
      exact h.mono fun r w' ⟨A, c, h1, _, h3⟩ => ⟨A, c, h1, h3⟩
    have HU2 : Hid (JT.U32 (es ++ [cc])) := fun e he => by
      simp at he
      rcases he with he | rfl
      · exact HU.out e he
      · exact hcl
    have HC2 : Hid (∀ W, SlN .u32 W.heap.size W A6 (es ++ [cc]) → SlI .i64 W.heap.size W (some ⟨g8, 0, none⟩) (ps ++ [(a : Int)]) → Calls Try.prog 15 #[.agg #[.int .i64 n, .slice A6 (es.length + 1) c6], .agg #[.slice (some ⟨g8, 0, none⟩) (ps.length + 1) cap8]] W fun r w' => r = .returned (.int .i64 0) ∧ Below W.heap.size W w') := fun W h1 h2 => by
      have h := jtCheck_any n A6 (some ⟨g8, 0, none⟩) c6 cap8 (es ++ [cc]) (ps ++ [(a : Int)]) W h1 HU2.out h2 (by simp; omega) (by simp; omega)
      rw [hes2, hps2, HGR.out.1] at h
      exact h
    have HP2 : Hid (∀ W, SlN .u32 W.heap.size W A6 (es ++ [cc]) → SlI .i64 W.heap.size W (some ⟨g8, 0, none⟩) (ps ++ [(a : Int)]) → Calls Try.prog 25 #[.agg #[.int .i64 n, .slice A6 (es.length + 1) c6], .agg #[.slice (some ⟨g8, 0, none⟩) (ps.length + 1) cap8], .int .i64 es.length] W fun r w' => r = .returned (.int .u32 cc) ∧ Below W.heap.size W w') := fun W h1 h2 => by
      have h := sep_any n A6 (some ⟨g8, 0, none⟩) c6 cap8 (es ++ [cc]) (ps ++ [(a : Int)]) es.length W h1 HU2.out h2 (by simp; omega) (by simp; omega)
      rw [hes2, hps2, HGR.out.2] at h
      exact h
    clear G7 HS7 HO7 HO8 HKP HUB hr0 hr1
    go_wp2_with fail
    refine (HB2.out _ R8.out.s6).mono ?_
    rintro e w9 ⟨A9, c9, rfl, hb9⟩
    have R9 := Lib.hid ((R8.out.next hb9).next ((Below.refl _ _).alloc (Nat.le_refl _) (.cells #[.slice A9 (es.length + 1) c9] 34)))
    have lw9 := hb9.size
    simp at lw9
    clear hb9 R8 hes2 hps2
    go_upto_region 9 with (fail)
    generalize w9.alloc (.cells #[.slice A9 (es.length + 1) c9] 34) = w10 at *
    have q0 := R9.out.h0
    have q1 := R9.out.h1
    have q2 := R9.out.t0
    have q3 := R9.out.gm.c1
    have q4 := R9.out.gm.m1
    obtain ⟨b', o', e', -, q5⟩ := slN_at R9.out.gm.sE hal
    simp at e'
    obtain ⟨rfl, rfl⟩ := e'
    rw [HEA.out] at q5
    have hcq : ((cc : Int) == (cc : Int)) = true := by simp
    go_region_held3 (fun w' => w'.cell? ⟨gb, 0, none⟩ = some (.int .i64 n) ∧ w'.cell? ⟨gb, 1, none⟩ = some (.slice A6 (es.length + 1) c6) ∧ w'.cell? ⟨w8.heap.size, 0, none⟩ = some (.slice (some ⟨g8, 0, none⟩) (ps.length + 1) cap8) ∧ w'.cell? ⟨w.heap.size, 1, none⟩ = some (.slice (some ⟨b, o, none⟩) es.length EC) ∧ w'.cell? ⟨w.heap.size + 1, 1, none⟩ = some (.int .u32 y) ∧ w'.cell? ⟨b, o + a, none⟩ = some (.int .u32 ea)) (first | exact KEEP3 | exact KEEP2 | exact KEEP1 | go_keep)
      (first
        | (go_at_call 15; refine (HC2.out _ ?_ ?_).mono ?_; (exact R9.out.s6); (exact R9.out.s9); rintro e w11 ⟨rfl, hb11⟩
           have R11 := Lib.hid (R9.out.next (Below.undrew hb11))
           have e11 := (Below.undrew hb11).cell (p := ⟨b, o + a, none⟩) (show b < w10.heap.size by have := R9.out.gm.sz; omega)
           have KEEP1 := And.intro R11.out.h0 (And.intro R11.out.h1 (And.intro R11.out.t0 (And.intro R11.out.gm.c1 (And.intro R11.out.gm.m1 (e11.trans q5)))))
           clear hb11 e11)
        | (go_at_call 25; refine (HP2.out _ ?_ ?_).mono ?_; (exact R11.out.s6); (exact R11.out.s9); rintro e w12 ⟨rfl, hb12⟩
           have R12 := Lib.hid (R11.out.next hb12)
           have e12 := hb12.cell (p := ⟨b, o + a, none⟩) (show b < w11.heap.size by have := R11.out.gm.sz; omega)
           have KEEP2 := And.intro R12.out.h0 (And.intro R12.out.h1 (And.intro R12.out.t0 (And.intro R12.out.gm.c1 (And.intro R12.out.gm.m1 (e12.trans KEEP1.2.2.2.2.2)))))
           clear hb12 e12)
        | (go_at_call 11; refine (awake_any _).mono ?_; rintro e w13 ⟨rfl, hb13⟩
           have R13 := Lib.hid (R12.out.next hb13)
           have e13 := hb13.cell (p := ⟨b, o + a, none⟩) (show b < w12.heap.size by have := R12.out.gm.sz; omega)
           have KEEP3 := And.intro R13.out.h0 (And.intro R13.out.h1 (And.intro R13.out.t0 (And.intro R13.out.gm.c1 (And.intro R13.out.gm.m1 (e13.trans KEEP2.2.2.2.2.2)))))
           clear hb13 e13)
        | fail)
    all_goals
      go_wp2
      go_ret
      exact ⟨rfl, R13.out.gm.bel⟩

end Go.Proofs.Ytfiegiifoekfmaa

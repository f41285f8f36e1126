/- Parts of the proof, merged: G14, JOrd, JJoin, JRer, JGyo, JSound, JComp, JRip, GY1. -/
import Derived.Test.YthgaflmldbgbnaaGreatDoorQ6
import Derived.Test.YthgaflmldbgbnaaGreatDoorQ3

set_option maxRecDepth 100000
namespace Go.Proofs.YthgaflmldbgbnaaGreatDoor
section
open Go.RowKit Go.Sort Go.ChangeMaps Go.WideShapes

def RaV (w : World) (v : Value) (a : RA) : Prop := ∃ VA VC PA PC, v = .agg #[.slice VA a.vs.length VC, .int .i64 a.ar, .slice PA a.P.length PC] ∧ a.vs.length ≤ VC ∧ VC ≤ 9223372036854775807 ∧ a.P.length ≤ PC ∧ PC ≤ 9223372036854775807 ∧ SlI .i64 w.heap.size w VA a.vs ∧ SlRs w.heap.size w PA a.P
theorem RaV.up {w w' : World} {v : Value} {a : RA} (h : RaV w v a) (hb : Below w.heap.size w w') : RaV w' v a := by
  obtain ⟨VA, VC, PA, PC, e, c1, c2, c3, c4, h1, h2⟩ := h
  exact ⟨VA, VC, PA, PC, e, c1, c2, c3, c4, (Sl.below h1 hb (Nat.le_refl _)).more hb.size, h2.upB hb⟩
def At.ra (a : At) : RA := ⟨a.vs.map Int.ofNat, (a.vs.length : Nat), a.P⟩
theorem At.ra_at (a : At) : a.ra.at = a := by
  unfold At.ra RA.at
  simp only [List.map_map]
  have e : a.vs.map (Int.toNat ∘ Int.ofNat) = a.vs := by
    conv => rhs; rw [← List.map_id a.vs]
    exact List.map_congr_left fun v _ => Int.toNat_natCast v
  rw [e]
theorem RA.good {a : RA} (h : errAt 32 a = 0) : a.at.ra = a := by
  obtain ⟨h1, h2, h3⟩ := errAt_zero h
  unfold At.ra RA.at
  have e : (a.vs.map Int.toNat).map Int.ofNat = a.vs := by
    rw [List.map_map]
    conv => rhs; rw [← List.map_id a.vs]
    exact List.map_congr_left fun v hv => Int.toNat_of_nonneg (h2 v hv).1
  simp only [e, List.length_map, h3]
theorem Gd.of {a : RA} (hs : Small a) (h : errAt 32 a = 0) : Gd a.at := by
  obtain ⟨h1, h2, h3⟩ := errAt_zero h
  refine ⟨?_, fun v hv => ?_, hs.hd h, hs.ss, hs.I, hs.many⟩
  · show (a.vs.map Int.toNat).Pairwise _
    refine List.pairwise_map.2 (h1.imp_of_mem fun {x y} hx hy hlt => ?_)
    have := h2 x hx
    have := h2 y hy
    omega
  · obtain ⟨x, hx, rfl⟩ := List.mem_map.1 hv
    have := h2 x hx
    omega
theorem AtV.ra {w : World} {v : Value} {a : At} (h : AtV w v a) : RaV w v a.ra := by
  obtain ⟨VA, VC, PA, PC, e, c1, c2, c3, c4, h1, h2⟩ := h
  refine ⟨VA, VC, PA, PC, ?_, ?_, c2, c3, c4, h1, h2⟩
  · rw [e]; unfold At.ra; simp only [List.length_map]
  · unfold At.ra; simp only [List.length_map]; exact c1
theorem Gd.err0 {a : At} (h : Gd a) : errAt 32 a.ra = 0 := by
  rw [errAt_arity (n := 32)]
  · rw [if_pos]; unfold At.ra; simp
  · unfold At.ra; exact List.pairwise_map.2 (h.asc.imp fun hlt => Int.ofNat_lt.2 hlt)
  · intro v hv
    unfold At.ra at hv
    obtain ⟨x, hx, rfl⟩ := List.mem_map.1 hv
    have := h.lt x hx
    exact ⟨Int.natCast_nonneg _, by show (x : Int) < 32; omega⟩
theorem Gd.small {a : At} (h : Gd a) : Small a.ra where
  ss := h.ss
  len r hr := by have := h.len r hr; unfold At.ra; simp only; omega
  ar := by have := h.vl; unfold At.ra; simp only; omega
  many := h.many
  vl := by have := h.vl; unfold At.ra; simp only [List.length_map]; omega
  I := h.I
def zeroAt : Value := .agg #[.slice none 0 0, .int .i64 0, .slice none 0 0]
theorem two_ats {w : World} {g : Nat} {VA VC PA PC WA WC QA QC} {a b : RA} (hr : Row w g 36 [.slice VA a.vs.length VC, .int .i64 a.ar, .slice PA a.P.length PC, .slice WA b.vs.length WC, .int .i64 b.ar, .slice QA b.P.length QC])
    (c1 : a.vs.length ≤ VC ∧ VC ≤ 9223372036854775807 ∧ a.P.length ≤ PC ∧ PC ≤ 9223372036854775807) (c2 : b.vs.length ≤ WC ∧ WC ≤ 9223372036854775807 ∧ b.P.length ≤ QC ∧ QC ≤ 9223372036854775807)
    (h1 : SlI .i64 w.heap.size w VA a.vs) (h2 : SlRs w.heap.size w PA a.P) (h3 : SlI .i64 w.heap.size w WA b.vs) (h4 : SlRs w.heap.size w QA b.P) : AtsM w.heap.size w (some ⟨g, 0, none⟩) [a, b] := fun _ => by
  refine ⟨g, 0, rfl, hr.lt, fun i hi => ?_⟩
  match i, hi with
  | 0, _ => exact ⟨VA, VC, PA, PC, hr.cell 0, hr.cell 1, hr.cell 2, c1.1, c1.2.1, c1.2.2.1, c1.2.2.2, h1, h2⟩
  | 1, _ => exact ⟨WA, WC, QA, QC, hr.cell 3, hr.cell 4, hr.cell 5, c2.1, c2.2.1, c2.2.2.1, c2.2.2.2, h3, h4⟩
  | n + 2, hi => exact absurd hi (by simp)
def XPost (w : World) (code : Int) (c : At) (e : Ending) (w' : World) : Prop :=
  (code = 0 → ∃ v, e = .returned (.tuple #[v, .int .i64 0]) ∧ AtP (fun c => w.heap.size + 3 ≤ c) w'.heap.size w' v c) ∧ (code ≠ 0 → e = .returned (.tuple #[zeroAt, .int .i64 code])) ∧ Below w.heap.size w w'

set_option maxHeartbeats 16000000 in
theorem sjSemiX_any (va vb : Value) (a b : RA) (w : World) (ha : RaV w va a) (hb : RaV w vb b) (hvl : a.vs.length ≤ 1000000 ∧ b.vs.length ≤ 1000000) (c : At)
    (hcall : ∀ W, Below w.heap.size w W → w.heap.size + 3 ≤ W.heap.size → errC [a, b] = 0 → Calls Tryz.prog 29 #[va, vb] W fun e w' => ∃ v, e = .returned (.tuple #[v, .int .i64 0]) ∧ AtP (fun c => W.heap.size + 3 ≤ c) w'.heap.size w' v c ∧ Below W.heap.size W w') :
    Calls Tryz.prog 9 #[va, vb] w (XPost w (errC [a, b]) c) := by
  obtain ⟨VA, VC, PA, PC, rfl, c1, c2, c3, c4, h1, h2⟩ := ha
  obtain ⟨WA, WC, QA, QC, rfl, d1, d2, d3, d4, h3, h4⟩ := hb
  obtain ⟨W0, hW0⟩ : ∃ W0, W0 = ((w.alloc (.cells #[.slice VA a.vs.length VC, .int .i64 a.ar, .slice PA a.P.length PC] 36)).alloc (.cells #[.slice WA b.vs.length WC, .int .i64 b.ar, .slice QA b.P.length QC] 36)).alloc (.cells #[.slice none 0 0, .int .i64 0, .slice none 0 0] 36) := ⟨_, rfl⟩
  have hx0 : Ext w W0 := by rw [hW0]; exact (((Ext.refl w).alloc _).alloc _).alloc _
  have hra : Row W0 w.heap.size 36 [.slice VA a.vs.length VC, .int .i64 a.ar, .slice PA a.P.length PC] := by rw [hW0]; exact ((Row.new w 36 _).alloc _).alloc _
  have hrb : Row W0 (w.heap.size + 1) 36 [.slice WA b.vs.length WC, .int .i64 b.ar, .slice QA b.P.length QC] := by
    have h := (Row.new (w.alloc (.cells #[.slice VA a.vs.length VC, .int .i64 a.ar, .slice PA a.P.length PC] 36)) 36 [.slice WA b.vs.length WC, .int .i64 b.ar, .slice QA b.P.length QC]).alloc (.cells #[.slice none 0 0, .int .i64 0, .slice none 0 0] 36)
    rw [World.size_alloc] at h
    rw [hW0]; exact h
  have hrr : Row W0 (w.heap.size + 1 + 1) 36 [.slice none 0 0, .int .i64 0, .slice none 0 0] := by
    have h := Row.new ((w.alloc (.cells #[.slice VA a.vs.length VC, .int .i64 a.ar, .slice PA a.P.length PC] 36)).alloc (.cells #[.slice WA b.vs.length WC, .int .i64 b.ar, .slice QA b.P.length QC] 36)) 36 [.slice none 0 0, .int .i64 0, .slice none 0 0]
    rw [World.size_alloc, World.size_alloc] at h
    rw [hW0]; exact h
  obtain ⟨W1, hW1⟩ : ∃ W1, W1 = W0.alloc (.cells #[.slice VA a.vs.length VC, .int .i64 a.ar, .slice PA a.P.length PC, .slice WA b.vs.length WC, .int .i64 b.ar, .slice QA b.P.length QC] 36) := ⟨_, rfl⟩
  have hx1 : Ext W0 W1 := by rw [hW1]; exact (Ext.refl W0).alloc _
  have hr1 : Row W1 W0.heap.size 36 [.slice VA a.vs.length VC, .int .i64 a.ar, .slice PA a.P.length PC, .slice WA b.vs.length WC, .int .i64 b.ar, .slice QA b.P.length QC] := by rw [hW1]; exact Row.new W0 _ _
  have hb1 : Below w.heap.size w W1 := Below.then hx0.below hx1.below hx0.size
  have hck := sjCheck_any (some ⟨W0.heap.size, 0, none⟩) 2 [a, b] W1 (two_ats hr1 ⟨c1, c2, c3, c4⟩ ⟨d1, d2, d3, d4⟩ ((Sl.below h1 hb1 (Nat.le_refl _)).more hb1.size) (h2.upB hb1) ((Sl.below h3 hb1 (Nat.le_refl _)).more hb1.size) (h4.upB hb1)) (by show 2 ≤ _; decide) (fun x hx => by
    rcases List.mem_cons.1 hx with rfl | hx
    · exact hvl.1
    · rw [List.mem_singleton.1 hx]; exact hvl.2)
  have HCK := Lib.hid hck
  have HB1 := Lib.hid hb1
  have HRA := Lib.hid (hra.up hx1.below)
  have HRB := Lib.hid (hrb.up hx1.below)
  have HRR := Lib.hid (hrr.up hx1.below)
  have HCALL := Lib.hid hcall
  have e0 : W0.cell? ⟨w.heap.size, 0, none⟩ = some (.slice VA a.vs.length VC) := hra.cell 0
  have e1 : W0.cell? ⟨w.heap.size, 1, none⟩ = some (.int .i64 a.ar) := hra.cell 1
  have e2 : W0.cell? ⟨w.heap.size, 2, none⟩ = some (.slice PA a.P.length PC) := hra.cell 2
  have e3 : W0.cell? ⟨w.heap.size + 1, 0, none⟩ = some (.slice WA b.vs.length WC) := hrb.cell 0
  have e4 : W0.cell? ⟨w.heap.size + 1, 1, none⟩ = some (.int .i64 b.ar) := hrb.cell 1
  have e5 : W0.cell? ⟨w.heap.size + 1, 2, none⟩ = some (.slice QA b.P.length QC) := hrb.cell 2
  have e6 := hra.lt
  have e7 := hrb.lt
  have HZ : Hid (w.heap.size + 3 ≤ W1.heap.size) := by have := hrr.lt; have := hx1.size; show _ ≤ _; omega
  clear hx0 hra hrb hrr hx1 hr1 hb1 hck hcall h1 h2 h3 h4 c1 c2 c3 c4 d1 d2 d3 d4 hvl
  go_enter Tryz.func9, Tryz.ntmps9
  go_upto_region 1 with (fail)
  rw [← hW0]
  clear hW0
  go_wp2_with fail
  rw [← hW1]
  clear hW1 e0 e1 e2 e3 e4 e5 e6 e7
  refine HCK.out.mono ?_
  rintro e w2 ⟨rfl, hb2⟩
  have HB2 := Lib.hid (Below.then HB1.out hb2 HB1.out.size)
  have HZ2 : Hid (w.heap.size + 3 ≤ w2.heap.size) := Nat.le_trans HZ.out hb2.size
  have ra := HRA.out.up hb2
  have rb := HRB.out.up hb2
  have rr := HRR.out.up hb2
  have HRR2 := Lib.hid rr
  clear hb2 HCK HRA HRB HRR
  generalize hcode : errC [a, b] = code at *
  by_cases h0 : code = 0
  rotate_left
  · have hne : (code != 0) = true := by simpa using h0
    have HN : Hid (code ≠ 0) := h0
    have m3 := rr.frozen 0
    have m4 := rr.frozen 1
    have m5 := rr.frozen 2
    have m6 := rr.lt
    have m0 : w2.cell? ⟨w.heap.size + 1 + 1, 0, none⟩ = some (.slice none 0 0) := rr.cell 0
    have m1 : w2.cell? ⟨w.heap.size + 1 + 1, 1, none⟩ = some (.int .i64 0) := rr.cell 1
    have m2 : w2.cell? ⟨w.heap.size + 1 + 1, 2, none⟩ = some (.slice none 0 0) := rr.cell 2
    clear h0 ra rb rr hcode
    go_wp2_with fail
    obtain ⟨V6, hV6⟩ : ∃ V', V' = ((w2.setCell ⟨w.heap.size + 1 + 1, 0, none⟩ (.slice none 0 0)).setCell ⟨w.heap.size + 1 + 1, 1, none⟩ (.int .i64 0)).setCell ⟨w.heap.size + 1 + 1, 2, none⟩ (.slice none 0 0) := ⟨_, rfl⟩
    rw [← hV6]
    have q : Row V6 (w.heap.size + 1 + 1) 36 [.slice none 0 0, .int .i64 0, .slice none 0 0] := by rw [hV6]; exact ((HRR2.out.set 0 _).set 1 _).set 2 _
    have f0 := q.cell 0
    have f1 := q.cell 1
    have f2 := q.cell 2
    exact bodyPost_ret (v := .tuple #[zeroAt, .int .i64 code]) (by simp [zeroAt, results, Tryz.results9, go_sem, f0, f1, f2]) rfl ⟨fun h => absurd h HN.out, fun _ => rfl, by rw [hV6]; exact ((HB2.out.setCell (by show w.heap.size ≤ w.heap.size + 1 + 1; omega) _).setCell (by show w.heap.size ≤ w.heap.size + 1 + 1; omega) _).setCell (by show w.heap.size ≤ w.heap.size + 1 + 1; omega) _⟩
  subst h0
  have HC2 := Lib.hid (HCALL.out w2 HB2.out HZ2.out rfl)
  have e0 : w2.cell? ⟨w.heap.size, 0, none⟩ = some (.slice VA a.vs.length VC) := ra.cell 0
  have e1 : w2.cell? ⟨w.heap.size, 1, none⟩ = some (.int .i64 a.ar) := ra.cell 1
  have e2 : w2.cell? ⟨w.heap.size, 2, none⟩ = some (.slice PA a.P.length PC) := ra.cell 2
  have e3 : w2.cell? ⟨w.heap.size + 1, 0, none⟩ = some (.slice WA b.vs.length WC) := rb.cell 0
  have e4 : w2.cell? ⟨w.heap.size + 1, 1, none⟩ = some (.int .i64 b.ar) := rb.cell 1
  have e5 : w2.cell? ⟨w.heap.size + 1, 2, none⟩ = some (.slice QA b.P.length QC) := rb.cell 2
  have e6 := ra.lt
  have e7 := rb.lt
  clear ra rb rr HCALL hcode
  go_wp2_with fail
  refine HC2.out.mono ?_
  rintro e w3 ⟨v, rfl, hat, hb3⟩
  obtain ⟨RA, RC, SA, SC, rfl, k1, k2, k3, k4, hk⟩ := hat
  have q3 := HRR2.out.up hb3
  have m3 := q3.frozen 0
  have m4 := q3.frozen 1
  have m5 := q3.frozen 2
  have m6 := q3.lt
  have m0 : w3.cell? ⟨w.heap.size + 1 + 1, 0, none⟩ = some (.slice none 0 0) := q3.cell 0
  have m1 : w3.cell? ⟨w.heap.size + 1 + 1, 1, none⟩ = some (.int .i64 0) := q3.cell 1
  have m2 : w3.cell? ⟨w.heap.size + 1 + 1, 2, none⟩ = some (.slice none 0 0) := q3.cell 2
  have HQ := Lib.hid q3
  have HK := Lib.hid hk
  have HKK := Lib.hid (And.intro (And.intro k1 k2) (And.intro k3 k4))
  have HB3 := Lib.hid (Below.then HB2.out hb3 HB2.out.size)
  clear q3 hk k1 k2 k3 k4 hb3 HC2
  go_wp2_with fail
  obtain ⟨V6, hV6⟩ : ∃ V', V' = ((w3.setCell ⟨w.heap.size + 1 + 1, 0, none⟩ (.slice RA c.vs.length RC)).setCell ⟨w.heap.size + 1 + 1, 1, none⟩ (.int .i64 (c.vs.length : Nat))).setCell ⟨w.heap.size + 1 + 1, 2, none⟩ (.slice SA c.P.length SC) := ⟨_, rfl⟩
  rw [← hV6]
  have q : Row V6 (w.heap.size + 1 + 1) 36 [.slice RA c.vs.length RC, .int .i64 (c.vs.length : Nat), .slice SA c.P.length SC] := by rw [hV6]; exact ((HQ.out.set 0 _).set 1 _).set 2 _
  have f0 := q.cell 0
  have f1 := q.cell 1
  have f2 := q.cell 2
  have hcell : ∀ p : Addr, p.block ≠ w.heap.size + 1 + 1 → V6.cell? p = w3.cell? p := fun p hp => by
    rw [hV6, World.cell?_setCell_other _ _ _ _ (fun e => hp (by rw [← e])), World.cell?_setCell_other _ _ _ _ (fun e => hp (by rw [← e])), World.cell?_setCell_other _ _ _ _ (fun e => hp (by rw [← e]))]
  have hsz : V6.heap.size = w3.heap.size := by rw [hV6]; simp
  refine bodyPost_ret (v := .tuple #[.agg #[.slice RA c.vs.length RC, .int .i64 (c.vs.length : Nat), .slice SA c.P.length SC], .int .i64 0]) (by simp [results, Tryz.results9, go_sem, f0, f1, f2]) rfl ⟨fun _ => ⟨_, rfl, RA, RC, SA, SC, rfl, HKK.out.1.1, HKK.out.1.2, HKK.out.2.1, HKK.out.2.2, fun W hag => ?_⟩, fun h => absurd rfl h, ?_⟩
  · rw [hsz]
    refine HK.out W fun p h1 h2 => ?_
    have := HZ2.out
    rw [hag p (by rw [hsz]; exact h1) (by omega)]
    exact hcell p (by omega)
  · rw [hV6]
    exact ((HB3.out.setCell (by show w.heap.size ≤ w.heap.size + 1 + 1; omega) _).setCell (by show w.heap.size ≤ w.heap.size + 1 + 1; omega) _).setCell (by show w.heap.size ≤ w.heap.size + 1 + 1; omega) _
set_option maxHeartbeats 16000000 in
theorem sjJoinX_any (va vb : Value) (a b : RA) (w : World) (ha : RaV w va a) (hb : RaV w vb b) (hvl : a.vs.length ≤ 1000000 ∧ b.vs.length ≤ 1000000) (c : At)
    (hcall : ∀ W, Below w.heap.size w W → w.heap.size + 3 ≤ W.heap.size → errC [a, b] = 0 → Calls Tryz.prog 30 #[va, vb] W fun e w' => ∃ v, e = .returned (.tuple #[v, .int .i64 0]) ∧ AtP (fun c => W.heap.size + 3 ≤ c) w'.heap.size w' v c ∧ Below W.heap.size W w') :
    Calls Tryz.prog 10 #[va, vb] w (XPost w (errC [a, b]) c) := by
  obtain ⟨VA, VC, PA, PC, rfl, c1, c2, c3, c4, h1, h2⟩ := ha
  obtain ⟨WA, WC, QA, QC, rfl, d1, d2, d3, d4, h3, h4⟩ := hb
  obtain ⟨W0, hW0⟩ : ∃ W0, W0 = ((w.alloc (.cells #[.slice VA a.vs.length VC, .int .i64 a.ar, .slice PA a.P.length PC] 36)).alloc (.cells #[.slice WA b.vs.length WC, .int .i64 b.ar, .slice QA b.P.length QC] 36)).alloc (.cells #[.slice none 0 0, .int .i64 0, .slice none 0 0] 36) := ⟨_, rfl⟩
  have hx0 : Ext w W0 := by rw [hW0]; exact (((Ext.refl w).alloc _).alloc _).alloc _
  have hra : Row W0 w.heap.size 36 [.slice VA a.vs.length VC, .int .i64 a.ar, .slice PA a.P.length PC] := by rw [hW0]; exact ((Row.new w 36 _).alloc _).alloc _
  have hrb : Row W0 (w.heap.size + 1) 36 [.slice WA b.vs.length WC, .int .i64 b.ar, .slice QA b.P.length QC] := by
    have h := (Row.new (w.alloc (.cells #[.slice VA a.vs.length VC, .int .i64 a.ar, .slice PA a.P.length PC] 36)) 36 [.slice WA b.vs.length WC, .int .i64 b.ar, .slice QA b.P.length QC]).alloc (.cells #[.slice none 0 0, .int .i64 0, .slice none 0 0] 36)
    rw [World.size_alloc] at h
    rw [hW0]; exact h
  have hrr : Row W0 (w.heap.size + 1 + 1) 36 [.slice none 0 0, .int .i64 0, .slice none 0 0] := by
    have h := Row.new ((w.alloc (.cells #[.slice VA a.vs.length VC, .int .i64 a.ar, .slice PA a.P.length PC] 36)).alloc (.cells #[.slice WA b.vs.length WC, .int .i64 b.ar, .slice QA b.P.length QC] 36)) 36 [.slice none 0 0, .int .i64 0, .slice none 0 0]
    rw [World.size_alloc, World.size_alloc] at h
    rw [hW0]; exact h
  obtain ⟨W1, hW1⟩ : ∃ W1, W1 = W0.alloc (.cells #[.slice VA a.vs.length VC, .int .i64 a.ar, .slice PA a.P.length PC, .slice WA b.vs.length WC, .int .i64 b.ar, .slice QA b.P.length QC] 36) := ⟨_, rfl⟩
  have hx1 : Ext W0 W1 := by rw [hW1]; exact (Ext.refl W0).alloc _
  have hr1 : Row W1 W0.heap.size 36 [.slice VA a.vs.length VC, .int .i64 a.ar, .slice PA a.P.length PC, .slice WA b.vs.length WC, .int .i64 b.ar, .slice QA b.P.length QC] := by rw [hW1]; exact Row.new W0 _ _
  have hb1 : Below w.heap.size w W1 := Below.then hx0.below hx1.below hx0.size
  have hck := sjCheck_any (some ⟨W0.heap.size, 0, none⟩) 2 [a, b] W1 (two_ats hr1 ⟨c1, c2, c3, c4⟩ ⟨d1, d2, d3, d4⟩ ((Sl.below h1 hb1 (Nat.le_refl _)).more hb1.size) (h2.upB hb1) ((Sl.below h3 hb1 (Nat.le_refl _)).more hb1.size) (h4.upB hb1)) (by show 2 ≤ _; decide) (fun x hx => by
    rcases List.mem_cons.1 hx with rfl | hx
    · exact hvl.1
    · rw [List.mem_singleton.1 hx]; exact hvl.2)
  have HCK := Lib.hid hck
  have HB1 := Lib.hid hb1
  have HRA := Lib.hid (hra.up hx1.below)
  have HRB := Lib.hid (hrb.up hx1.below)
  have HRR := Lib.hid (hrr.up hx1.below)
  have HCALL := Lib.hid hcall
  have e0 : W0.cell? ⟨w.heap.size, 0, none⟩ = some (.slice VA a.vs.length VC) := hra.cell 0
  have e1 : W0.cell? ⟨w.heap.size, 1, none⟩ = some (.int .i64 a.ar) := hra.cell 1
  have e2 : W0.cell? ⟨w.heap.size, 2, none⟩ = some (.slice PA a.P.length PC) := hra.cell 2
  have e3 : W0.cell? ⟨w.heap.size + 1, 0, none⟩ = some (.slice WA b.vs.length WC) := hrb.cell 0
  have e4 : W0.cell? ⟨w.heap.size + 1, 1, none⟩ = some (.int .i64 b.ar) := hrb.cell 1
  have e5 : W0.cell? ⟨w.heap.size + 1, 2, none⟩ = some (.slice QA b.P.length QC) := hrb.cell 2
  have e6 := hra.lt
  have e7 := hrb.lt
  have HZ : Hid (w.heap.size + 3 ≤ W1.heap.size) := by have := hrr.lt; have := hx1.size; show _ ≤ _; omega
  clear hx0 hra hrb hrr hx1 hr1 hb1 hck hcall h1 h2 h3 h4 c1 c2 c3 c4 d1 d2 d3 d4 hvl
  go_enter Tryz.func10, Tryz.ntmps10
  go_upto_region 1 with (fail)
  rw [← hW0]
  clear hW0
  go_wp2_with fail
  rw [← hW1]
  clear hW1 e0 e1 e2 e3 e4 e5 e6 e7
  refine HCK.out.mono ?_
  rintro e w2 ⟨rfl, hb2⟩
  have HB2 := Lib.hid (Below.then HB1.out hb2 HB1.out.size)
  have HZ2 : Hid (w.heap.size + 3 ≤ w2.heap.size) := Nat.le_trans HZ.out hb2.size
  have ra := HRA.out.up hb2
  have rb := HRB.out.up hb2
  have rr := HRR.out.up hb2
  have HRR2 := Lib.hid rr
  clear hb2 HCK HRA HRB HRR
  generalize hcode : errC [a, b] = code at *
  by_cases h0 : code = 0
  rotate_left
  · have hne : (code != 0) = true := by simpa using h0
    have HN : Hid (code ≠ 0) := h0
    have m3 := rr.frozen 0
    have m4 := rr.frozen 1
    have m5 := rr.frozen 2
    have m6 := rr.lt
    have m0 : w2.cell? ⟨w.heap.size + 1 + 1, 0, none⟩ = some (.slice none 0 0) := rr.cell 0
    have m1 : w2.cell? ⟨w.heap.size + 1 + 1, 1, none⟩ = some (.int .i64 0) := rr.cell 1
    have m2 : w2.cell? ⟨w.heap.size + 1 + 1, 2, none⟩ = some (.slice none 0 0) := rr.cell 2
    clear h0 ra rb rr hcode
    go_wp2_with fail
    obtain ⟨V6, hV6⟩ : ∃ V', V' = ((w2.setCell ⟨w.heap.size + 1 + 1, 0, none⟩ (.slice none 0 0)).setCell ⟨w.heap.size + 1 + 1, 1, none⟩ (.int .i64 0)).setCell ⟨w.heap.size + 1 + 1, 2, none⟩ (.slice none 0 0) := ⟨_, rfl⟩
    rw [← hV6]
    have q : Row V6 (w.heap.size + 1 + 1) 36 [.slice none 0 0, .int .i64 0, .slice none 0 0] := by rw [hV6]; exact ((HRR2.out.set 0 _).set 1 _).set 2 _
    have f0 := q.cell 0
    have f1 := q.cell 1
    have f2 := q.cell 2
    exact bodyPost_ret (v := .tuple #[zeroAt, .int .i64 code]) (by simp [zeroAt, results, Tryz.results10, go_sem, f0, f1, f2]) rfl ⟨fun h => absurd h HN.out, fun _ => rfl, by rw [hV6]; exact ((HB2.out.setCell (by show w.heap.size ≤ w.heap.size + 1 + 1; omega) _).setCell (by show w.heap.size ≤ w.heap.size + 1 + 1; omega) _).setCell (by show w.heap.size ≤ w.heap.size + 1 + 1; omega) _⟩
  subst h0
  have HC2 := Lib.hid (HCALL.out w2 HB2.out HZ2.out rfl)
  have e0 : w2.cell? ⟨w.heap.size, 0, none⟩ = some (.slice VA a.vs.length VC) := ra.cell 0
  have e1 : w2.cell? ⟨w.heap.size, 1, none⟩ = some (.int .i64 a.ar) := ra.cell 1
  have e2 : w2.cell? ⟨w.heap.size, 2, none⟩ = some (.slice PA a.P.length PC) := ra.cell 2
  have e3 : w2.cell? ⟨w.heap.size + 1, 0, none⟩ = some (.slice WA b.vs.length WC) := rb.cell 0
  have e4 : w2.cell? ⟨w.heap.size + 1, 1, none⟩ = some (.int .i64 b.ar) := rb.cell 1
  have e5 : w2.cell? ⟨w.heap.size + 1, 2, none⟩ = some (.slice QA b.P.length QC) := rb.cell 2
  have e6 := ra.lt
  have e7 := rb.lt
  clear ra rb rr HCALL hcode
  go_wp2_with fail
  refine HC2.out.mono ?_
  rintro e w3 ⟨v, rfl, hat, hb3⟩
  obtain ⟨RA, RC, SA, SC, rfl, k1, k2, k3, k4, hk⟩ := hat
  have q3 := HRR2.out.up hb3
  have m3 := q3.frozen 0
  have m4 := q3.frozen 1
  have m5 := q3.frozen 2
  have m6 := q3.lt
  have m0 : w3.cell? ⟨w.heap.size + 1 + 1, 0, none⟩ = some (.slice none 0 0) := q3.cell 0
  have m1 : w3.cell? ⟨w.heap.size + 1 + 1, 1, none⟩ = some (.int .i64 0) := q3.cell 1
  have m2 : w3.cell? ⟨w.heap.size + 1 + 1, 2, none⟩ = some (.slice none 0 0) := q3.cell 2
  have HQ := Lib.hid q3
  have HK := Lib.hid hk
  have HKK := Lib.hid (And.intro (And.intro k1 k2) (And.intro k3 k4))
  have HB3 := Lib.hid (Below.then HB2.out hb3 HB2.out.size)
  clear q3 hk k1 k2 k3 k4 hb3 HC2
  go_wp2_with fail
  obtain ⟨V6, hV6⟩ : ∃ V', V' = ((w3.setCell ⟨w.heap.size + 1 + 1, 0, none⟩ (.slice RA c.vs.length RC)).setCell ⟨w.heap.size + 1 + 1, 1, none⟩ (.int .i64 (c.vs.length : Nat))).setCell ⟨w.heap.size + 1 + 1, 2, none⟩ (.slice SA c.P.length SC) := ⟨_, rfl⟩
  rw [← hV6]
  have q : Row V6 (w.heap.size + 1 + 1) 36 [.slice RA c.vs.length RC, .int .i64 (c.vs.length : Nat), .slice SA c.P.length SC] := by rw [hV6]; exact ((HQ.out.set 0 _).set 1 _).set 2 _
  have f0 := q.cell 0
  have f1 := q.cell 1
  have f2 := q.cell 2
  have hcell : ∀ p : Addr, p.block ≠ w.heap.size + 1 + 1 → V6.cell? p = w3.cell? p := fun p hp => by
    rw [hV6, World.cell?_setCell_other _ _ _ _ (fun e => hp (by rw [← e])), World.cell?_setCell_other _ _ _ _ (fun e => hp (by rw [← e])), World.cell?_setCell_other _ _ _ _ (fun e => hp (by rw [← e]))]
  have hsz : V6.heap.size = w3.heap.size := by rw [hV6]; simp
  refine bodyPost_ret (v := .tuple #[.agg #[.slice RA c.vs.length RC, .int .i64 (c.vs.length : Nat), .slice SA c.P.length SC], .int .i64 0]) (by simp [results, Tryz.results10, go_sem, f0, f1, f2]) rfl ⟨fun _ => ⟨_, rfl, RA, RC, SA, SC, rfl, HKK.out.1.1, HKK.out.1.2, HKK.out.2.1, HKK.out.2.2, fun W hag => ?_⟩, fun h => absurd rfl h, ?_⟩
  · rw [hsz]
    refine HK.out W fun p h1 h2 => ?_
    have := HZ2.out
    rw [hag p (by rw [hsz]; exact h1) (by omega)]
    exact hcell p (by omega)
  · rw [hV6]
    exact ((HB3.out.setCell (by show w.heap.size ≤ w.heap.size + 1 + 1; omega) _).setCell (by show w.heap.size ≤ w.heap.size + 1 + 1; omega) _).setCell (by show w.heap.size ≤ w.heap.size + 1 + 1; omega) _
end
end Go.Proofs.YthgaflmldbgbnaaGreatDoor
section
namespace Go.Proofs.YthgaflmldbgbnaaGreatDoor.JT

theorem nodup_le {l m : List Nat} (hl : l.Nodup) (h : ∀ x ∈ l, x ∈ m) : l.length ≤ m.length := by
  induction l generalizing m with
  | nil => simp
  | cons a l ih =>
    have ha : a ∈ m := h a (by simp)
    rw [List.nodup_cons] at hl
    have h2 : l.length ≤ (m.erase a).length := ih hl.2 fun x hx => by
      have hne : x ≠ a := fun e => hl.1 (e ▸ hx)
      exact (List.mem_erase_of_ne hne).2 (h x (by simp [hx]))
    rw [List.length_erase_of_mem ha] at h2
    have : 0 < m.length := List.length_pos_of_mem ha
    simp; omega

theorem nodup_ne {l : List Nat} (h : l.Nodup) {i j : Nat} (hij : i < j) (hj : j < l.length) : l[i]? ≠ l[j]? := by
  unfold List.Nodup at h
  rw [List.pairwise_iff_getElem] at h
  rw [List.getElem?_eq_getElem hj, List.getElem?_eq_getElem (by omega)]
  intro e
  exact h i j (by omega) hj hij (by injection e)
theorem nodup_of {l : List Nat} (h : ∀ i j, i < j → j < l.length → l[i]? ≠ l[j]?) : l.Nodup := by
  unfold List.Nodup
  rw [List.pairwise_iff_getElem]
  intro i j hi hj hij e
  apply h i j hij hj
  rw [List.getElem?_eq_getElem hj, List.getElem?_eq_getElem hi, e]

def par (ps : List Int) (k : Nat) : Int := ps[k]?.getD (-1)

def ready (ps : List Int) (D : List Nat) (v : Nat) : Prop := v < ps.length ∧ v ∉ D ∧ ∀ k, k < ps.length → par ps k = (v : Int) → k ∈ D
def readyB (ps : List Int) (D : List Nat) (v : Nat) : Bool := decide (v < ps.length) && !(D.contains v) && (List.range ps.length).all fun k => !(par ps k == (v : Int)) || D.contains k
theorem readyB_iff {ps : List Int} {D : List Nat} {v : Nat} : readyB ps D v = true ↔ ready ps D v := by
  unfold readyB ready
  simp only [Bool.and_eq_true, decide_eq_true_eq, Bool.not_eq_true', List.all_eq_true, List.mem_range, Bool.or_eq_true, and_assoc]
  constructor
  · rintro ⟨h1, h2, h3⟩
    refine ⟨h1, by simpa using h2, fun k hk hp => ?_⟩
    rcases h3 k hk with h | h
    · simp at h; exact absurd hp h
    · simpa using h
  · rintro ⟨h1, h2, h3⟩
    refine ⟨h1, by simpa using h2, fun k hk => ?_⟩
    by_cases hp : par ps k = (v : Int)
    · exact .inr (by simpa using h3 k hk hp)
    · exact .inl (by simpa using hp)

def cntF (ps : List Int) (D : List Nat) (u : Nat) : Nat := (List.range ps.length).countP fun k => (par ps k == (u : Int)) && !(D.contains k)

theorem cnt_zero {ps : List Int} {D : List Nat} {u : Nat} : cntF ps D u = 0 ↔ ∀ k, k < ps.length → par ps k = (u : Int) → k ∈ D := by
  unfold cntF
  rw [List.countP_eq_zero]
  simp only [List.mem_range, Bool.and_eq_true, Bool.not_eq_true', not_and, Bool.not_eq_false]
  constructor
  · intro h k hk hp
    have := h k hk (by simpa using hp)
    simpa using this
  · intro h k hk hp
    simpa using h k hk (by simpa using hp)

theorem countP_one_less (l : List Nat) (hl : l.Nodup) (p q : Nat → Bool) (v : Nat) (hv : v ∈ l) (hp : p v = true) (hq : q v = false) (hpq : ∀ x ∈ l, x ≠ v → p x = q x) : l.countP q + 1 = l.countP p := by
  induction l with
  | nil => simp at hv
  | cons a l ih =>
    rw [List.nodup_cons] at hl
    by_cases ha : a = v
    · subst ha
      have : l.countP q = l.countP p := List.countP_congr fun x hx => by
        rw [hpq x (by simp [hx]) (fun e => hl.1 (e ▸ hx))]
      simp [hp, hq, this]
    · have hv' : v ∈ l := by simp at hv; rcases hv with h | h; exact absurd h.symm ha; exact h
      have := ih hl.2 hv' fun x hx hne => hpq x (by simp [hx]) hne
      simp only [List.countP_cons, hpq a (by simp) ha]
      omega

theorem cnt_emit {ps : List Int} {D : List Nat} {v u : Nat} (hv : v < ps.length) (hn : v ∉ D) : cntF ps D u = cntF ps (D ++ [v]) u + (if par ps v = (u : Int) then 1 else 0) := by
  by_cases hp : par ps v = (u : Int)
  · rw [if_pos hp]
    unfold cntF
    symm
    apply countP_one_less _ List.nodup_range _ _ v (List.mem_range.2 hv)
    · simp [hp, hn]
    · simp
    · intro x _ hne
      simp [hne]
  · rw [if_neg hp]
    unfold cntF
    rw [Nat.add_zero]
    apply List.countP_congr
    intro x _
    by_cases hx : x = v
    · subst hx; simp [hp]
    · simp [hx]

def Greedy (ps : List Int) (D : List Nat) : Prop := ∀ i v, D[i]? = some v → ready ps (D.take i) v ∧ ∀ u, u < v → ¬ ready ps (D.take i) u

theorem Greedy.nil (ps : List Int) : Greedy ps [] := fun i v h => by simp at h

theorem Greedy.snoc {ps : List Int} {D : List Nat} {v : Nat} (h : Greedy ps D) (hr : ready ps D v) (hm : ∀ u, u < v → ¬ ready ps D u) : Greedy ps (D ++ [v]) := by
  intro i x hx
  by_cases hi : i < D.length
  · rw [List.getElem?_append_left hi] at hx
    rw [List.take_append_of_le_length (by omega)]
    exact h i x hx
  · have : i = D.length := by
      have := (List.getElem?_eq_some_iff.1 hx).1
      simp at this; omega
    subst this
    simp at hx
    subst hx
    simpa using ⟨hr, hm⟩

theorem Greedy.lt {ps : List Int} {D : List Nat} (h : Greedy ps D) {v : Nat} (hv : v ∈ D) : v < ps.length := by
  obtain ⟨i, hi, rfl⟩ := List.getElem_of_mem hv
  exact (h i _ (List.getElem?_eq_getElem hi)).1.1

theorem Greedy.nodup {ps : List Int} {D : List Nat} (h : Greedy ps D) : D.Nodup := by
  apply nodup_of
  intro i j hij hj hc
  have h2 := (h j _ (List.getElem?_eq_getElem hj)).1.2.1
  apply h2
  rw [List.getElem?_eq_getElem hj] at hc
  rw [List.mem_take_iff_getElem]
  obtain ⟨hi, hi2⟩ := List.getElem?_eq_some_iff.1 hc
  exact ⟨i, by omega, hi2⟩

theorem Greedy.length {ps : List Int} {D : List Nat} (h : Greedy ps D) : D.length ≤ ps.length := by
  have := nodup_le (m := List.range ps.length) h.nodup fun x hx => List.mem_range.2 (h.lt hx)
  simpa using this

theorem Greedy.after {ps : List Int} {D : List Nat} (h : Greedy ps D) {v p : Nat} (hv : v < ps.length) (hp : par ps v = (p : Int)) {j : Nat} (hj : D[j]? = some p) : v ∈ D.take j :=
  (h j p hj).1.2.2 v hv hp

theorem Greedy.parent_out {ps : List Int} {D : List Nat} {v p : Nat} (h : Greedy ps (D ++ [v])) (hp : par ps v = (p : Int)) : p ∉ D ++ [v] := by
  intro hm
  obtain ⟨j, hj, hjp⟩ := List.getElem_of_mem hm
  have hjs : (D ++ [v])[j]? = some p := by rw [List.getElem?_eq_getElem hj, hjp]
  have hv : v < ps.length := h.lt (by simp)
  have hin := h.after hv hp hjs
  have hnd := h.nodup
  rw [List.nodup_append] at hnd
  have : v ∈ D := by
    rw [List.take_append_of_le_length (by simp at hj; omega)] at hin
    exact List.mem_of_mem_take hin
  exact hnd.2.2 v this v (by simp) rfl

theorem ready_emit {ps : List Int} {D : List Nat} {v u : Nat} (h : ready ps (D ++ [v]) u) : ready ps D u ∨ par ps v = (u : Int) := by
  by_cases hp : par ps v = (u : Int)
  · exact .inr hp
  · refine .inl ⟨h.1, fun hu => h.2.1 (by simp [hu]), fun k hk hkp => ?_⟩
    have := h.2.2 k hk hkp
    simp at this
    rcases this with h1 | h1
    · exact h1
    · subst h1; exact absurd hkp hp

def IsOrder (ps : List Int) (D : List Nat) : Prop := Greedy ps D ∧ ∀ u, ¬ ready ps D u

def nextF (ps : List Int) (D : List Nat) : Option Nat := (List.range ps.length).find? (readyB ps D)
def orderGo (ps : List Int) : Nat → List Nat → List Nat
  | 0, D => D
  | f + 1, D => match nextF ps D with | none => D | some v => orderGo ps f (D ++ [v])
def orderF (ps : List Int) : List Nat := orderGo ps ps.length []

theorem nextF_none {ps : List Int} {D : List Nat} (h : ∀ u, ¬ ready ps D u) : nextF ps D = none := by
  unfold nextF
  rw [List.find?_eq_none]
  intro x _ hx
  exact h x (readyB_iff.1 hx)

theorem nextF_some {ps : List Int} {D : List Nat} {v : Nat} (h : ready ps D v) (hm : ∀ u, u < v → ¬ ready ps D u) : nextF ps D = some v := by
  unfold nextF
  rw [List.find?_range_eq_some]
  exact ⟨readyB_iff.2 h, List.mem_range.2 h.1, fun j hj => by
    have := hm j hj
    rw [← readyB_iff] at this
    simpa using this⟩

theorem nextF_of {ps : List Int} {D : List Nat} {v : Nat} (h : nextF ps D = some v) : ready ps D v ∧ ∀ u, u < v → ¬ ready ps D u := by
  unfold nextF at h
  rw [List.find?_range_eq_some] at h
  refine ⟨readyB_iff.1 h.1, fun u hu hr => ?_⟩
  have := h.2.2 u hu
  rw [readyB_iff.2 hr] at this
  simp at this

theorem orderGo_of {ps : List Int} {D : List Nat} (h : IsOrder ps D) : ∀ f j, j ≤ D.length → D.length - j ≤ f → orderGo ps f (D.take j) = D := by
  intro f
  induction f with
  | zero => intro j h1 h2; rw [List.take_of_length_le (by omega)]; rfl
  | succ f ih =>
    intro j h1 h2
    by_cases hj : j < D.length
    · have h3 := h.1 j D[j] (List.getElem?_eq_getElem hj)
      rw [orderGo, nextF_some h3.1 h3.2]
      show orderGo ps f (D.take j ++ [D[j]]) = D
      rw [← List.take_succ_eq_append_getElem hj]
      exact ih (j + 1) hj (by omega)
    · rw [List.take_of_length_le (by omega), orderGo, nextF_none h.2]

theorem order_unique {ps : List Int} {D : List Nat} (h : IsOrder ps D) : D = orderF ps := by
  have := orderGo_of h ps.length 0 (by omega) (by have := h.1.length; omega)
  simpa [orderF] using this.symm

theorem orderGo_is {ps : List Int} : ∀ f D, Greedy ps D → ps.length - D.length ≤ f → IsOrder ps (orderGo ps f D) := by
  intro f
  induction f with
  | zero =>
    intro D hD hf
    refine ⟨hD, fun u hu => ?_⟩
    have h1 : (u :: D).Nodup := List.nodup_cons.2 ⟨hu.2.1, hD.nodup⟩
    have h2 := nodup_le (m := List.range ps.length) h1 fun x hx => by
      simp at hx; rcases hx with rfl | hx
      · exact List.mem_range.2 hu.1
      · exact List.mem_range.2 (hD.lt hx)
    simp at h2; omega
  | succ f ih =>
    intro D hD hf
    unfold orderGo
    cases hn : nextF ps D with
    | none =>
      refine ⟨hD, fun u hu => ?_⟩
      unfold nextF at hn
      rw [List.find?_eq_none] at hn
      exact hn u (List.mem_range.2 hu.1) (readyB_iff.2 hu)
    | some v =>
      obtain ⟨h1, h2⟩ := nextF_of hn
      exact ih _ (hD.snoc h1 h2) (by simp; omega)

theorem orderF_is (ps : List Int) : IsOrder ps (orderF ps) := orderGo_is _ _ (Greedy.nil ps) (by simp)

/-! ### The order is whole just where every node leads to a root -/

theorem up_neg {ps : List Int} {v : Int} (h : v < 0) : ∀ k, up ps k v = v
  | 0 => rfl
  | k + 1 => by rw [up, if_pos h]

theorem up_succ {ps : List Int} {v : Nat} (hv : v < ps.length) (k : Nat) : up ps (k + 1) (v : Int) = up ps k (par ps v) := by
  rw [up, if_neg (by omega)]
  simp [par, hv]

theorem whole_up {ps : List Int} {D : List Nat} (h : Greedy ps D) (hv : ∀ p ∈ ps, -1 ≤ p ∧ p < ps.length) (hall : ∀ u, u < ps.length → u ∈ D) :
    ∀ k i v : Nat, D[i]? = some v → up ps k (v : Int) < 0 ∨ ∃ j x : Nat, D[j]? = some x ∧ up ps k (v : Int) = (x : Int) ∧ i + k ≤ j := by
  intro k
  induction k with
  | zero => intro i v hi; exact .inr ⟨i, v, hi, rfl, by omega⟩
  | succ k ih =>
    intro i v hi
    have hvl : v < ps.length := (h i v hi).1.1
    rw [up_succ hvl]
    have hpar : par ps v = ps[v] := by simp [par, hvl]
    have hb := hv ps[v] (List.getElem_mem hvl)
    by_cases hp : par ps v < 0
    · exact .inl (by rw [up_neg hp]; exact hp)
    · obtain ⟨p, hpp⟩ := Int.eq_ofNat_of_zero_le (show 0 ≤ par ps v by omega)
      have hpin : p ∈ D := hall p (by omega)
      obtain ⟨j, hj, hjp⟩ := List.getElem_of_mem hpin
      have hjs : D[j]? = some p := by rw [List.getElem?_eq_getElem hj, hjp]
      have hin := h.after hvl hpp hjs
      have hij : i < j := by
        rw [List.mem_take_iff_getElem] at hin
        obtain ⟨i', hi', he⟩ := hin
        have hii : i' = i := by
          have hnd := h.nodup
          have hil := (List.getElem?_eq_some_iff.1 hi).1
          have h1 : D[i']? = D[i]? := by rw [List.getElem?_eq_getElem (by omega), he, hi]
          rcases Nat.lt_trichotomy i' i with hlt | heq | hgt
          · exact absurd h1 (nodup_ne hnd hlt hil)
          · exact heq
          · exact absurd h1.symm (nodup_ne hnd hgt (by omega))
        omega
      rw [hpp]
      rcases ih j p hjs with h1 | ⟨j', x, h1, h2, h3⟩
      · exact .inl h1
      · exact .inr ⟨j', x, h1, h2, by omega⟩

theorem order_whole {ps : List Int} (hv : ∀ p ∈ ps, -1 ≤ p ∧ p < ps.length) : (orderF ps).length = ps.length ↔ ∀ i, i < ps.length → up ps ps.length (i : Int) < 0 := by
  have hO := orderF_is ps
  generalize orderF ps = D at *
  constructor
  · intro hl i hi
    have hall : ∀ u, u < ps.length → u ∈ D := by
      intro u hu
      refine Classical.byContradiction fun hn => ?_
      have h1 : (u :: D).Nodup := List.nodup_cons.2 ⟨hn, hO.1.nodup⟩
      have h2 := nodup_le (m := List.range ps.length) h1 fun x hx => by
        simp at hx; rcases hx with rfl | hx
        · exact List.mem_range.2 hu
        · exact List.mem_range.2 (hO.1.lt hx)
      simp at h2; omega
    obtain ⟨j, hj, hji⟩ := List.getElem_of_mem (hall i hi)
    rcases whole_up hO.1 hv hall ps.length j i (by rw [List.getElem?_eq_getElem hj, hji]) with h1 | ⟨j', x, h1, _, h3⟩
    · exact h1
    · have := (List.getElem?_eq_some_iff.1 h1).1
      omega
  · intro hall
    have hle := hO.1.length
    refine Classical.byContradiction fun hne => ?_
    have hex : ∃ u, u < ps.length ∧ u ∉ D := by
      refine Classical.byContradiction fun hn => ?_
      have h2 := nodup_le (l := List.range ps.length) (m := D) List.nodup_range fun x hx => by
        refine Classical.byContradiction fun hx2 => hn ⟨x, List.mem_range.1 hx, hx2⟩
      simp at h2; omega
    obtain ⟨u, hu, hun⟩ := hex
    have hch : ∀ k, ∃ x, x < ps.length ∧ x ∉ D ∧ up ps k (x : Int) = (u : Int) := by
      intro k
      induction k with
      | zero => exact ⟨u, hu, hun, rfl⟩
      | succ k ih =>
        obtain ⟨x, hx, hxn, hxu⟩ := ih
        have hnr := hO.2 x
        have : ∃ y, y < ps.length ∧ par ps y = (x : Int) ∧ y ∉ D := by
          refine Classical.byContradiction fun hn => hnr ⟨hx, hxn, fun y hy hyp => ?_⟩
          refine Classical.byContradiction fun hyn => hn ⟨y, hy, hyp, hyn⟩
        obtain ⟨y, hy, hyp, hyn⟩ := this
        exact ⟨y, hy, hyn, by rw [up_succ hy, hyp, hxu]⟩
    obtain ⟨x, hx, _, hxu⟩ := hch ps.length
    have := hall x hx
    omega

theorem rootedB_of {ps : List Int} (hv : ∀ p ∈ ps, -1 ≤ p ∧ p < ps.length) : rootedB ps = ((rootsF ps == 1) && decide ((orderF ps).length = ps.length)) := by
  have h1 : validB ps = true := by
    unfold validB
    simp only [List.all_eq_true, Bool.and_eq_true, decide_eq_true_eq]
    exact hv
  unfold rootedB
  rw [h1, Bool.true_and]
  congr 1
  rw [Bool.eq_iff_iff, decide_eq_true_eq, order_whole hv]
  simp [List.all_eq_true]

theorem rootedB_bad {ps : List Int} (h : ¬ ∀ p ∈ ps, -1 ≤ p ∧ p < ps.length) : rootedB ps = false := by
  have h1 : validB ps = false := by
    rw [Bool.eq_false_iff]
    intro h2
    unfold validB at h2
    simp only [List.all_eq_true, Bool.and_eq_true, decide_eq_true_eq] at h2
    exact h h2
  simp [rootedB, h1]

theorem up_self {ps : List Int} {i : Nat} (hi : i < ps.length) (h : ps[i] = (i : Int)) : ∀ k, up ps k (i : Int) = (i : Int)
  | 0 => rfl
  | k + 1 => by
    rw [up_succ hi, show par ps i = (i : Int) by simp [par, hi, h]]
    exact up_self hi h k

theorem rootedB_self {ps : List Int} {i : Nat} (hi : i < ps.length) (h : ps[i] = (i : Int)) : rootedB ps = false := by
  rw [Bool.eq_false_iff]
  intro h2
  unfold rootedB at h2
  simp only [Bool.and_eq_true, List.all_eq_true, List.mem_range, decide_eq_true_eq] at h2
  have := h2.2 i hi
  rw [up_self hi h] at this
  omega

theorem roots_snoc (ps : List Int) {k : Nat} (hk : k < ps.length) : rootsF (ps.take (k + 1)) = rootsF (ps.take k) + if ps[k] < 0 then 1 else 0 := by
  unfold rootsF
  rw [List.take_succ_eq_append_getElem hk, List.countP_append]
  by_cases h : ps[k] < 0 <;> simp [h]
theorem roots_le (ps : List Int) : rootsF ps ≤ ps.length := List.countP_le_length
theorem all_snoc {α : Type} {ps : List α} {P : α → Prop} {k : Nat} (hk : k < ps.length) (h : ∀ p ∈ ps.take k, P p) : P ps[k] → ∀ p ∈ ps.take (k + 1), P p := by
  intro hp p hm
  rw [List.take_succ_eq_append_getElem hk, List.mem_append] at hm
  rcases hm with hm | hm
  · exact h p hm
  · simp at hm; rw [hm]; exact hp
theorem rootedB_bad' {ps : List Int} {k : Nat} (hk : k < ps.length) : ¬ (-1 ≤ ps[k] ∧ ps[k] < ps.length) → rootedB ps = false :=
  fun h => rootedB_bad fun h2 => h (h2 _ (List.getElem_mem hk))
theorem rootedB_self' {ps : List Int} {k : Nat} (hk : k < ps.length) : ps[k] = (k : Int) → rootedB ps = false := rootedB_self hk

/-! ### Counters in a list -/
def Cnts (n : Nat) (cs : List Int) (f : Nat → Nat) : Prop := cs.length = n ∧ ∀ u, u < n → cs[u]? = some (f u : Int)
theorem Cnts.zero (n : Nat) : Cnts n (List.replicate n 0) fun _ => 0 := ⟨by simp, fun u hu => by simp [hu]⟩
theorem Cnts.congr {n : Nat} {cs : List Int} {f g : Nat → Nat} (h : Cnts n cs f) (hfg : ∀ u, u < n → f u = g u) : Cnts n cs g := ⟨h.1, fun u hu => by rw [h.2 u hu, hfg u hu]⟩
theorem Cnts.put {n : Nat} {cs : List Int} {f g : Nat → Nat} {j : Nat} {c : Int} (h : Cnts n cs f) (hj : c = (g j : Int)) (hfg : ∀ u, u < n → u ≠ j → f u = g u) : Cnts n (cs.set j c) g := by
  refine ⟨by simp [h.1], fun u hu => ?_⟩
  by_cases he : j = u
  · subst he
    rw [List.getElem?_set_self (by rw [h.1]; exact hu), hj]
  · rw [List.getElem?_set_ne he, h.2 u hu, hfg u hu (fun e => he e.symm)]
theorem Cnts.get {n : Nat} {cs : List Int} {f : Nat → Nat} (h : Cnts n cs f) {u : Nat} (hu : u < n) (hl : u < cs.length) : cs[u] = (f u : Int) := by
  have := h.2 u hu
  rw [List.getElem?_eq_getElem hl] at this
  injection this

def cnt1 (ps : List Int) (k u : Nat) : Nat := (List.range k).countP fun j => par ps j == (u : Int)
theorem cnt1_succ (ps : List Int) (k u : Nat) : cnt1 ps (k + 1) u = cnt1 ps k u + if par ps k = (u : Int) then 1 else 0 := by
  unfold cnt1
  rw [List.range_succ, List.countP_append]
  by_cases h : par ps k = (u : Int) <;> simp [h]
theorem cnt1_le (ps : List Int) (k u : Nat) : cnt1 ps k u ≤ k := by
  have := List.countP_le_length (l := List.range k) (p := fun j => par ps j == (u : Int))
  simpa [cnt1] using this
theorem cnt1_whole (ps : List Int) (u : Nat) : cnt1 ps ps.length u = cntF ps [] u := by
  unfold cnt1 cntF
  simp
theorem cntF_le (ps : List Int) (D : List Nat) (u : Nat) : cntF ps D u ≤ ps.length := by
  have := List.countP_le_length (l := List.range ps.length) (p := fun k => (par ps k == (u : Int)) && !(D.contains k))
  simpa [cntF] using this

structure InnerI (ps : List Int) (k : Nat) (D : List Nat) (cs : List Int) (v : Int) : Prop where
  greedy : Greedy ps D
  cnts : Cnts ps.length cs (cntF ps D)
  le : ∀ d ∈ D, d ≤ k
  only : ∀ u, ready ps D u → k < u ∨ (u : Int) = v
  out : ∀ p : Nat, v = (p : Int) → p ∉ D

theorem InnerI.start {ps : List Int} {k : Nat} {D : List Nat} {cs : List Int} (hG : Greedy ps D) (hc : Cnts ps.length cs (cntF ps D)) (hl : ∀ d ∈ D, d < k) (hr : ∀ u, ready ps D u → k ≤ u) : InnerI ps k D cs (k : Int) :=
  ⟨hG, hc, fun d hd => by have := hl d hd; omega, fun u hu => by have := hr u hu; omega, fun p hp hm => by have := hl p hm; omega⟩

theorem InnerI.ready {ps : List Int} {k : Nat} {D : List Nat} {cs : List Int} {v : Nat} (h : InnerI ps k D cs (v : Int)) (hv : v < ps.length) (h0 : cntF ps D v = 0) : ready ps D v :=
  ⟨hv, h.out v rfl, cnt_zero.1 h0⟩

theorem InnerI.length {ps : List Int} {k : Nat} {D : List Nat} {cs : List Int} {v : Nat} (h : InnerI ps k D cs (v : Int)) (hv : v < ps.length) : D.length < ps.length := by
  have h1 : (v :: D).Nodup := List.nodup_cons.2 ⟨h.out v rfl, h.greedy.nodup⟩
  have h2 := nodup_le (m := List.range ps.length) h1 fun x hx => by
    simp at hx; rcases hx with rfl | hx
    · exact List.mem_range.2 hv
    · exact List.mem_range.2 (h.greedy.lt hx)
  simp at h2; omega

theorem InnerI.emit {ps : List Int} {k : Nat} {D : List Nat} {cs : List Int} {v : Nat} (h : InnerI ps k D cs (v : Int)) (hv : v < ps.length) (hvk : v ≤ k) (h0 : cntF ps D v = 0) {cs' : List Int} (hc : Cnts ps.length cs' (cntF ps (D ++ [v]))) :
    InnerI ps k (D ++ [v]) cs' (par ps v) := by
  have hr := h.ready hv h0
  have hG : Greedy ps (D ++ [v]) := h.greedy.snoc hr fun u hu hru => by
    rcases h.only u hru with h1 | h1
    · omega
    · omega
  refine ⟨hG, hc, fun d hd => ?_, fun u hu => ?_, fun p hp => hG.parent_out hp⟩
  · simp at hd; rcases hd with hd | rfl
    · exact h.le d hd
    · exact hvk
  · rcases ready_emit hu with h1 | h1
    · rcases h.only u h1 with h2 | h2
      · exact .inl h2
      · exfalso
        have : u = v := by omega
        subst this
        exact hu.2.1 (by simp)
    · exact .inr h1.symm

theorem InnerI.done {ps : List Int} {k : Nat} {D : List Nat} {cs : List Int} {v : Int} (h : InnerI ps k D cs v) (hx : v < 0 ∨ (k : Int) < v ∨ ∃ p : Nat, v = (p : Int) ∧ cntF ps D p ≠ 0) : ∀ u, JT.ready ps D u → k + 1 ≤ u := by
  intro u hu
  rcases h.only u hu with h1 | h1
  · omega
  · rcases hx with h2 | h2 | ⟨p, hp, h2⟩
    · omega
    · omega
    · exfalso
      have : u = p := by omega
      subst this
      exact h2 (cnt_zero.2 hu.2.2)

end Go.Proofs.YthgaflmldbgbnaaGreatDoor.JT
end
namespace Go.Proofs.YthgaflmldbgbnaaGreatDoor
end Go.Proofs.YthgaflmldbgbnaaGreatDoor
section
namespace Go.Proofs.YthgaflmldbgbnaaGreatDoor.JT

theorem has_eq (e v : Nat) : has e v = e.testBit v := by
  unfold has
  rw [Nat.testBit_eq_decide_div_mod_eq]
  rw [Bool.eq_iff_iff]
  simp

def topF (es : List Nat) (ps : List Int) (i : Nat) : Nat := dif (es[i]?.getD 0) (sepF es ps (i : Int))
def seenTo (es : List Nat) (ps : List Int) : Nat → Nat
  | 0 => 0
  | k + 1 => seenTo es ps k ||| topF es ps k

def U32 (es : List Nat) : Prop := ∀ e ∈ es, e ≤ 4294967295

theorem U32.get {es : List Nat} (h : U32 es) (i : Nat) : es[i]?.getD 0 < 4294967296 := by
  by_cases hi : i < es.length
  · have := h es[i] (List.getElem_mem hi)
    simp [hi]; omega
  · simp [List.getElem?_eq_none (Nat.le_of_not_lt hi)]

theorem sepF_le (es : List Nat) (ps : List Int) (i : Nat) : sepF es ps (i : Int) ≤ es[i]?.getD 0 := by
  unfold sepF
  split
  · split
    · simp only [Int.toNat_natCast]
      exact Nat.and_le_left
    · exact Nat.zero_le _
  · exact Nat.zero_le _

theorem topF_lt {es : List Nat} {ps : List Int} (h : U32 es) (i : Nat) : topF es ps i < 4294967296 := dif_lt _ _ (h.get i)
theorem seenTo_lt {es : List Nat} {ps : List Int} (h : U32 es) : ∀ k, seenTo es ps k < 4294967296
  | 0 => by simp [seenTo]
  | k + 1 => by
    unfold seenTo
    have h1 := seenTo_lt (ps := ps) h k
    have h2 := topF_lt (ps := ps) h k
    exact Nat.or_lt_two_pow (n := 32) h1 h2

theorem seenTo_bit (es : List Nat) (ps : List Int) (v : Nat) : ∀ k, (seenTo es ps k).testBit v = true ↔ ∃ i, i < k ∧ (topF es ps i).testBit v = true
  | 0 => by simp [seenTo]
  | k + 1 => by
    unfold seenTo
    rw [Nat.testBit_or, Bool.or_eq_true, seenTo_bit es ps v k]
    constructor
    · rintro (⟨i, h1, h2⟩ | h)
      · exact ⟨i, by omega, h2⟩
      · exact ⟨k, by omega, h⟩
    · rintro ⟨i, h1, h2⟩
      by_cases hi : i < k
      · exact .inl ⟨i, hi, h2⟩
      · obtain rfl : i = k := by omega
        exact .inr h2

def TopsOk (es : List Nat) (ps : List Int) : Prop := ∀ i, i < es.length → seenTo es ps i &&& topF es ps i = 0

theorem topsOk_iff (es : List Nat) (ps : List Int) : TopsOk es ps ↔ ∀ v i j, i < j → j < es.length → ¬ ((topF es ps i).testBit v = true ∧ (topF es ps j).testBit v = true) := by
  constructor
  · intro h v i j hij hj ⟨h1, h2⟩
    have h3 := h j hj
    have h4 : (seenTo es ps j &&& topF es ps j).testBit v = true := by
      rw [Nat.testBit_and, h2, (seenTo_bit es ps v j).2 ⟨i, hij, h1⟩]; rfl
    rw [h3] at h4
    simp at h4
  · intro h j hj
    apply Nat.eq_of_testBit_eq
    intro v
    rw [Nat.testBit_and, Nat.zero_testBit]
    cases h1 : (topF es ps j).testBit v
    · simp
    · rw [Bool.and_true]
      rw [Bool.eq_false_iff]
      intro h2
      obtain ⟨i, hi, h3⟩ := (seenTo_bit es ps v j).1 h2
      exact h v i j hi hj ⟨h3, h1⟩

theorem countP_le_one (p : Nat → Bool) : ∀ m, (List.range m).countP p ≤ 1 ↔ ∀ i j, i < j → j < m → ¬ (p i = true ∧ p j = true)
  | 0 => by simp
  | m + 1 => by
    rw [List.range_succ, List.countP_append]
    have hlast : List.countP p [m] = if p m then 1 else 0 := by simp [List.countP_cons]
    rw [hlast]
    constructor
    · intro h i j hij hj ⟨h1, h2⟩
      by_cases hjm : j < m
      · exact (countP_le_one p m).1 (by omega) i j hij hjm ⟨h1, h2⟩
      · obtain rfl : j = m := by omega
        rw [if_pos h2] at h
        have : (List.range j).countP p = 0 := by omega
        rw [List.countP_eq_zero] at this
        exact this i (List.mem_range.2 hij) h1
    · intro h
      by_cases hm : p m = true
      · rw [if_pos hm]
        have : (List.range m).countP p = 0 := by
          rw [List.countP_eq_zero]
          intro i hi h1
          exact h i m (List.mem_range.1 hi) (by omega) ⟨h1, hm⟩
        omega
      · rw [if_neg hm]
        exact (countP_le_one p m).2 fun i j hij hj => h i j hij (by omega)

theorem countP_split (p q : Nat → Bool) (l : List Nat) : l.countP p = l.countP (fun i => p i && q i) + l.countP (fun i => p i && !q i) := by
  induction l with
  | nil => rfl
  | cons a l ih =>
    simp only [List.countP_cons]
    cases p a <;> cases q a <;> simp <;> omega

theorem topF_bit {es : List Nat} {ps : List Int} (hu : U32 es) (hl : ps.length = es.length) (hv : ∀ p ∈ ps, -1 ≤ p ∧ p < ps.length) {i : Nat} (hi : i < es.length) (v : Nat) :
    (topF es ps i).testBit v = (has (es[i]?.getD 0) v && !(decide (0 ≤ ps[i]?.getD 0) && has (es[(ps[i]?.getD 0).toNat]?.getD 0) v)) := by
  unfold topF
  rw [testBit_dif _ _ _ (hu.get i) (Nat.lt_of_le_of_lt (sepF_le es ps i) (hu.get i)), has_eq, has_eq]
  have hb := hv ps[i] (List.getElem_mem (by omega))
  have hpi : ps[i]?.getD 0 = ps[i] := by simp [show i < ps.length by omega]
  unfold sepF
  rw [if_pos (by omega)]
  simp only [Int.toNat_natCast]
  rw [hpi]
  by_cases hp : 0 ≤ ps[i]
  · rw [if_pos (by omega), Nat.testBit_and]
    simp [hp]
    cases (es[i]?.getD 0).testBit v <;> simp
  · rw [if_neg (by omega)]
    simp [hp]

theorem joinB_iff {N : Nat} {es : List Nat} {ps : List Int} (hN : ∀ e ∈ es, e < 2 ^ N) (hN2 : N ≤ 32) (hl : ps.length = es.length) (hr : rootedB ps = true) : joinB N es ps = true ↔ TopsOk es ps := by
  have hu : U32 es := fun e he => by
    have := hN e he
    have : 2 ^ N ≤ 2 ^ 32 := Nat.pow_le_pow_right (by omega) hN2
    omega
  have hr' := hr
  unfold rootedB at hr'
  simp only [Bool.and_eq_true, List.all_eq_true, List.mem_range, decide_eq_true_eq] at hr'
  obtain ⟨⟨hvalid, _⟩, hup⟩ := hr'
  have hv : ∀ p ∈ ps, -1 ≤ p ∧ p < ps.length := by
    unfold validB at hvalid
    simp only [List.all_eq_true, Bool.and_eq_true, decide_eq_true_eq] at hvalid
    exact hvalid
  have hcnt : ∀ v, nodesF es v = linksF es ps v + (List.range es.length).countP (fun i => (topF es ps i).testBit v) := by
    intro v
    unfold nodesF linksF
    rw [countP_split _ (fun i => decide (0 ≤ ps[i]?.getD 0) && has (es[(ps[i]?.getD 0).toNat]?.getD 0) v)]
    congr 1
    · apply List.countP_congr
      intro i _
      unfold linkB
      rw [Bool.and_assoc]
    · apply List.countP_congr
      intro i hi
      rw [topF_bit hu hl hv (List.mem_range.1 hi)]
  have hone : ∀ v, 0 < nodesF es v → 0 < (List.range es.length).countP (fun i => (topF es ps i).testBit v) := by
    intro v hpos
    refine Classical.byContradiction fun hz => ?_
    have hz0 : (List.range es.length).countP (fun i => (topF es ps i).testBit v) = 0 := by omega
    rw [List.countP_eq_zero] at hz0
    unfold nodesF at hpos
    rw [List.countP_pos_iff] at hpos
    obtain ⟨i, hi, hiv⟩ := hpos
    have hch : ∀ k (i : Nat), i < es.length → has (es[i]?.getD 0) v = true → 0 ≤ up ps k (i : Int) := by
      intro k
      induction k with
      | zero => intro i _ _; simp [up]
      | succ k ih =>
        intro i hi hiv
        have h1 := hz0 i (List.mem_range.2 hi)
        rw [topF_bit hu hl hv hi, hiv] at h1
        simp at h1
        have hb := hv ps[i] (List.getElem_mem (by omega))
        have hpi : ps[i]?.getD 0 = ps[i] := by simp [show i < ps.length by omega]
        rw [hpi] at h1
        rw [up_succ (by omega), show par ps i = ps[i] by simp [par, show i < ps.length by omega]]
        obtain ⟨q, hq⟩ := Int.eq_ofNat_of_zero_le h1.1
        rw [hq]
        apply ih q (by omega)
        have h2 := h1.2
        rw [hq] at h2
        simpa using h2
    have h3 := hch ps.length i (List.mem_range.1 hi) hiv
    have h4 := hup i (by have := List.mem_range.1 hi; omega)
    omega
  rw [topsOk_iff]
  unfold joinB
  simp only [List.all_eq_true, List.mem_range, Bool.or_eq_true, beq_iff_eq]
  constructor
  · intro h v i j hij hj
    by_cases hvN : v < N
    · refine (countP_le_one (fun i => (topF es ps i).testBit v) es.length).1 ?_ i j hij hj
      have h1 := hcnt v
      rcases h v hvN with h2 | h2
      · omega
      · omega
    · rintro ⟨h1, _⟩
      rw [topF_bit hu hl hv (by omega)] at h1
      simp only [Bool.and_eq_true] at h1
      have h2 := h1.1
      rw [has_eq] at h2
      have h3 : es[i]?.getD 0 < 2 ^ v := by
        have h4 := hN es[i] (List.getElem_mem (show i < es.length by omega))
        have h5 : 2 ^ N ≤ 2 ^ v := Nat.pow_le_pow_right (by omega) (by omega)
        simp [show i < es.length by omega]
        omega
      rw [Nat.testBit_lt_two_pow h3] at h2
      cases h2
  · intro h v hvN
    have h1 := hcnt v
    have h2 := hone v
    have h3 := (countP_le_one (fun i => (topF es ps i).testBit v) es.length).2 (fun i j hij hj => h v i j hij hj)
    by_cases h0 : nodesF es v = 0
    · exact .inl h0
    · right
      have := h2 (by omega)
      omega

def nodesTo (es : List Nat) (v k : Nat) : Nat := (List.range k).countP fun i => has (es[i]?.getD 0) v
theorem chkF_hg {N : Int} {es : List Nat} {ps : List Int} (h : hgCheckF N es ≠ 0) : chkF N es ps = hgCheckF N es := by unfold chkF; rw [if_pos h]
theorem chkF_len {N : Int} {es : List Nat} {ps : List Int} (h : hgCheckF N es = 0) (hl : ps.length ≠ es.length) : chkF N es ps = 28 := by
  unfold chkF; rw [if_neg (by simp [h]), if_pos hl]
theorem chkF_root {N : Int} {es : List Nat} {ps : List Int} (h : hgCheckF N es = 0) (hl : ps.length = es.length) (hr : rootedB ps = false) : chkF N es ps = 15 := by
  unfold chkF; rw [if_neg (by simp [h]), if_neg (by simp [hl]), if_pos hr]
theorem chkF_tops {N : Int} {es : List Nat} {ps : List Int} (h : hgCheckF N es = 0) (hl : ps.length = es.length) (hr : rootedB ps = true) (ht : ¬ TopsOk es ps) : chkF N es ps = 24 := by
  obtain ⟨n, rfl, hn, _, hN⟩ := hgCheckF_zero h
  have h1 := joinB_iff hN hn hl hr
  unfold chkF
  rw [if_neg (by simp [h]), if_neg (by simp [hl]), if_neg (by simp [hr]), if_pos]
  rw [Bool.eq_false_iff]
  intro h2
  exact ht (h1.1 (by simpa using h2))
theorem chkF_ok {N : Int} {es : List Nat} {ps : List Int} (h : hgCheckF N es = 0) (hl : ps.length = es.length) (hr : rootedB ps = true) (ht : TopsOk es ps) : chkF N es ps = 0 := by
  obtain ⟨n, rfl, hn, _, hN⟩ := hgCheckF_zero h
  have h1 := joinB_iff hN hn hl hr
  unfold chkF
  rw [if_neg (by simp [h]), if_neg (by simp [hl]), if_neg (by simp [hr]), if_neg]
  rw [Int.toNat_natCast, h1.2 ht]
  simp

end Go.Proofs.YthgaflmldbgbnaaGreatDoor.JT
end
namespace Go.Proofs.YthgaflmldbgbnaaGreatDoor
end Go.Proofs.YthgaflmldbgbnaaGreatDoor
section
namespace Go.Proofs.YthgaflmldbgbnaaGreatDoor.JT

theorem rooted_parts {ps : List Int} (h : rootedB ps = true) : (∀ p ∈ ps, -1 ≤ p ∧ p < ps.length) ∧ rootsF ps = 1 ∧ ∀ i, i < ps.length → up ps ps.length (i : Int) < 0 := by
  unfold rootedB at h
  simp only [Bool.and_eq_true, List.all_eq_true, List.mem_range, decide_eq_true_eq, beq_iff_eq] at h
  refine ⟨?_, h.1.2, h.2⟩
  have h1 := h.1.1
  unfold validB at h1
  simp only [List.all_eq_true, Bool.and_eq_true, decide_eq_true_eq] at h1
  exact h1
theorem rooted_pos {ps : List Int} (h : rootedB ps = true) : 0 < ps.length := by
  have := (rooted_parts h).2.1
  cases ps with
  | nil => simp [rootsF] at this
  | cons => simp

/-! ### The reference's way to the order: the smallest ready node, found from above -/
end Go.Proofs.YthgaflmldbgbnaaGreatDoor.JT
end
namespace Go.Proofs.YthgaflmldbgbnaaGreatDoor
end Go.Proofs.YthgaflmldbgbnaaGreatDoor
section
namespace Go.Proofs.YthgaflmldbgbnaaGreatDoor.JT

def absorbs (R : List Nat) (rem : List Bool) (e i : Nat) : Bool := !(e == i) && !(rem[e]?.getD true) && !(rem[i]?.getD true) && (dif (R[e]?.getD 0) (R[i]?.getD 0) == 0)
def absorbF (R : List Nat) (rem : List Bool) : Option (Nat × Nat) := (List.range R.length).findSome? fun e => ((List.range R.length).find? (absorbs R rem e)).map fun i => (e, i)

def vcnt (R : List Nat) (v k : Nat) : Nat := nodesTo R v k
def vlast (R : List Nat) (v : Nat) : Nat → Nat
  | 0 => 0
  | k + 1 => if has (R[k]?.getD 0) v then k else vlast R v k
def isolateF (n : Nat) (R : List Nat) : Option (Nat × Nat) := ((List.range n).find? fun v => vcnt R v R.length == 1).map fun v => (vlast R v R.length, v)
abbrev Stp := Nat × Int × Int
structure Red where
  rest : List Nat
  rem : List Bool
  steps : List Stp

def stepF (n : Nat) (s : Red) : Option Red :=
  match absorbF s.rest s.rem with
  | some (e, i) => some ⟨s.rest.set e 0, s.rem.set e true, s.steps ++ [(e, (i : Int), -1)]⟩
  | none => match isolateF n s.rest with
    | some (e, v) => some ⟨s.rest.set e (dif (s.rest[e]?.getD 0) (2 ^ v)), s.rem, s.steps ++ [(e, -1, (v : Int))]⟩
    | none => none

def runF (n : Nat) : Nat → Red → Red
  | 0, s => s
  | f + 1, s => match stepF n s with | some s' => runF n f s' | none => s

def bitsOf (x : Nat) : Nat := (List.range 32).countP fun v => x.testBit v
def weight (s : Red) : Nat := s.rem.countP (fun b => !b) + (s.rest.map bitsOf).sum

def startF (es : List Nat) : Red := ⟨es, List.replicate es.length false, []⟩
def reduceF (n : Nat) (es : List Nat) : Red := runF n (weight (startF es)) (startF es)

theorem sum_set (l : List Nat) (i a : Nat) (h : i < l.length) : (l.set i a).sum + l[i] = l.sum + a := by
  induction l generalizing i with
  | nil => simp at h
  | cons x l ih =>
    cases i with
    | zero => simp; omega
    | succ i =>
      simp only [List.set_cons_succ, List.sum_cons, List.getElem_cons_succ]
      have := ih i (by simpa using h)
      omega

def Reach (n : Nat) (es : List Nat) (s : Red) : Prop := runF n (weight s) s = reduceF n es
end Go.Proofs.YthgaflmldbgbnaaGreatDoor.JT
end
namespace Go.Proofs.YthgaflmldbgbnaaGreatDoor
end Go.Proofs.YthgaflmldbgbnaaGreatDoor
section
namespace Go.Proofs.YthgaflmldbgbnaaGreatDoor.JT

abbrev bit (l : List Nat) (e v : Nat) : Prop := (l[e]?.getD 0).testBit v = true

theorem countP_list (l : List Int) (p : Int → Bool) (d : Int) : l.countP p = (List.range l.length).countP fun i => p (l[i]?.getD d) := by
  have h : l = (List.range l.length).map fun i => l[i]?.getD d := by
    apply List.ext_getElem
    · simp
    · intro i h1 h2
      simp [h1]
  conv => lhs; rw [h]
  rw [List.countP_map]
  rfl

end Go.Proofs.YthgaflmldbgbnaaGreatDoor.JT
end
namespace Go.Proofs.YthgaflmldbgbnaaGreatDoor
end Go.Proofs.YthgaflmldbgbnaaGreatDoor
section
namespace Go.Proofs.YthgaflmldbgbnaaGreatDoor.JT

/-! ### A join tree gives such a listing: the order of its nodes -/
theorem up_pos_order {ps : List Int} {D : List Nat} (h : Greedy ps D) (hv : ∀ p ∈ ps, -1 ≤ p ∧ p < ps.length) (hall : ∀ u, u < ps.length → u ∈ D) {k z t : Nat} (hz : z < ps.length) (ht : up ps k (z : Int) = (t : Int)) : D.idxOf z ≤ D.idxOf t := by
  obtain ⟨i, hi, hiz⟩ := List.getElem_of_mem (hall z hz)
  have hii : D.idxOf z = i := by rw [← hiz]; exact h.nodup.idxOf_getElem i hi
  rcases whole_up h hv hall k i z (by rw [List.getElem?_eq_getElem hi, hiz]) with h1 | ⟨j, x, h1, h2, h3⟩
  · omega
  · have hx : x = t := by omega
    subst hx
    obtain ⟨hj, hjx⟩ := List.getElem?_eq_some_iff.1 h1
    have : D.idxOf x = j := by rw [← hjx]; exact h.nodup.idxOf_getElem j hj
    omega

end Go.Proofs.YthgaflmldbgbnaaGreatDoor.JT
end
namespace Go.Proofs.YthgaflmldbgbnaaGreatDoor
end Go.Proofs.YthgaflmldbgbnaaGreatDoor
section
namespace Go.Proofs.YthgaflmldbgbnaaGreatDoor.JT

def PRip (ps : List Int) (F : Nat → Nat → Prop) : List Nat → Prop
  | [] => True
  | h :: t => ((t = [] ∧ par ps h < 0) ∨ ∃ p : Nat, p ∈ t ∧ par ps h = (p : Int) ∧ ∀ v, F h v → (∃ z ∈ t, F z v) → F p v) ∧ PRip ps F t

theorem order_rip {es : List Nat} {ps : List Int} {N : Int} (hk : chkF N es ps = 0) : ps.length = es.length ∧ 0 < es.length ∧ (orderF ps).Nodup ∧ (∀ u, u ∈ orderF ps ↔ u < ps.length) ∧ PRip ps (bit es) (orderF ps) := by
  have hg : hgCheckF N es = 0 := by
    refine Classical.byContradiction fun h => ?_
    rw [chkF_hg h] at hk; exact h hk
  have hl : ps.length = es.length := by
    refine Classical.byContradiction fun h => ?_
    rw [chkF_len hg h] at hk; omega
  have hr : rootedB ps = true := by
    cases h : rootedB ps with
    | true => rfl
    | false => rw [chkF_root hg hl h] at hk; omega
  have ht : TopsOk es ps := by
    refine Classical.byContradiction fun h => ?_
    rw [chkF_tops hg hl hr h] at hk; omega
  obtain ⟨n, rfl, hn, _, hN⟩ := hgCheckF_zero hg
  have hu : U32 es := fun e he => by
    have := hN e he
    have : 2 ^ n ≤ 2 ^ 32 := Nat.pow_le_pow_right (by omega) hn
    omega
  obtain ⟨hv, hroots, hup⟩ := rooted_parts hr
  have hpos := rooted_pos hr
  have hO := orderF_is ps
  have hwh := (order_whole hv).2 hup
  generalize orderF ps = D at *
  have hall : ∀ u, u < ps.length → u ∈ D := by
    intro u hu
    refine Classical.byContradiction fun hn => ?_
    have h1 : (u :: D).Nodup := List.nodup_cons.2 ⟨hn, hO.1.nodup⟩
    have h2 := nodup_le (m := List.range ps.length) h1 fun x hx => by
      simp at hx; rcases hx with rfl | hx
      · exact List.mem_range.2 hu
      · exact List.mem_range.2 (hO.1.lt hx)
    simp at h2; omega
  rw [topsOk_iff] at ht
  have hlink : ∀ h p v : Nat, h < es.length → ps[h]?.getD 0 = (p : Int) → bit es h v → ¬ bit es p v → (topF es ps h).testBit v = true := by
    intro h p v hh hp hb hnb
    rw [topF_bit hu hl hv hh, hp]
    unfold bit at hb hnb
    simp only [Int.toNat_natCast]
    rw [has_eq, has_eq, hb]
    cases hc : (es[p]?.getD 0).testBit v with
    | true => exact absurd hc hnb
    | false => simp
  -- climbing from a node that holds v one comes to a top of v
  have hclimb : ∀ v k (z : Nat), z < es.length → bit es z v → (∃ t k' : Nat, t < es.length ∧ up ps k' (z : Int) = (t : Int) ∧ (topF es ps t).testBit v = true) ∨ (∃ t : Nat, t < es.length ∧ up ps k (z : Int) = (t : Int) ∧ bit es t v) := by
    intro v k
    induction k with
    | zero => intro z hz hb; exact .inr ⟨z, hz, rfl, hb⟩
    | succ k ih =>
      intro z hz hb
      cases htop : (topF es ps z).testBit v with
      | true => exact .inl ⟨z, 0, hz, rfl, htop⟩
      | false =>
        have htop' := htop
        rw [topF_bit hu hl hv hz, has_eq, has_eq] at htop'
        unfold bit at hb
        rw [hb] at htop'
        simp at htop'
        obtain ⟨hp0, hpb⟩ := htop'
        have hzl : z < ps.length := by omega
        have hpz : ps[z]?.getD 0 = ps[z] := by simp [hzl]
        rw [hpz] at hp0 hpb
        have hvz := hv ps[z] (List.getElem_mem hzl)
        obtain ⟨q, hq⟩ := Int.eq_ofNat_of_zero_le hp0
        rw [hq] at hpb
        simp at hpb
        have hup1 : ∀ j, up ps (j + 1) (z : Int) = up ps j (q : Int) := fun j => by
          rw [up_succ hzl, show par ps z = ps[z] by simp [par, hzl], hq]
        rcases ih q (by omega) hpb with ⟨t, k', h1, h2, h3⟩ | ⟨t, h1, h2, h3⟩
        · exact .inl ⟨t, k' + 1, h1, by rw [hup1]; exact h2, h3⟩
        · exact .inr ⟨t, h1, by rw [hup1]; exact h2, h3⟩
  have htopOf : ∀ v (z : Nat), z < es.length → bit es z v → ∃ t k' : Nat, t < es.length ∧ up ps k' (z : Int) = (t : Int) ∧ (topF es ps t).testBit v = true := by
    intro v z hz hb
    rcases hclimb v ps.length z hz hb with h | ⟨t, _, h2, _⟩
    · exact h
    · have := hup z (by omega); omega
  refine ⟨hl, by omega, hO.1.nodup, fun u => ⟨fun h => hO.1.lt h, hall u⟩, ?_⟩
  · have hsuf : ∀ (l : List Nat) (pre : List Nat), pre ++ l = D → PRip ps (bit es) l := by
      intro l
      induction l with
      | nil => intro _ _; trivial
      | cons h t ih =>
        intro pre hpre
        refine ⟨?_, ih (pre ++ [h]) (by rw [← hpre]; simp)⟩
        have hhD : h ∈ D := by rw [← hpre]; simp
        have hhl : h < ps.length := hO.1.lt hhD
        have hnd := hO.1.nodup
        have hafter : ∀ z ∈ t, D.idxOf h < D.idxOf z := by
          intro z hz
          have hnd2 := hnd
          rw [← hpre, List.nodup_append] at hnd2
          obtain ⟨_, n2, n3⟩ := hnd2
          rw [List.nodup_cons] at n2
          have hhp : h ∉ pre := fun hm => n3 h hm h (by simp) rfl
          have hzp : z ∉ pre := fun hm => n3 z hm z (by simp [hz]) rfl
          have hzh : z ≠ h := fun e => n2.1 (e ▸ hz)
          rw [← hpre, List.idxOf_append, if_neg hhp, List.idxOf_append, if_neg hzp, List.idxOf_cons_self]
          have hb : (h == z) = false := by simpa using fun e => hzh e.symm
          simp [List.idxOf_cons, hb]
        have hph : ps[h]?.getD 0 = ps[h] := by simp [hhl]
        have hvh := hv ps[h] (List.getElem_mem hhl)
        -- h is no root: the root comes last
        have hnr : ps[h] < 0 → t = [] := by
          intro hneg
          refine Classical.byContradiction fun hne => ?_
          obtain ⟨t0, ht0⟩ := List.exists_mem_of_ne_nil t hne
          have ht0D : t0 ∈ D := by rw [← hpre]; simp [ht0]
          have ht0l := hO.1.lt ht0D
          -- climbing from t0 one comes to a root; there is only one
          have hroot : ∃ k r : Nat, r < ps.length ∧ up ps k (t0 : Int) = (r : Int) ∧ par ps r < 0 := by
            have hgen : ∀ k (z : Nat), z < ps.length → up ps k (z : Int) < 0 → ∃ k' r : Nat, r < ps.length ∧ up ps k' (z : Int) = (r : Int) ∧ par ps r < 0 := by
              intro k
              induction k with
              | zero => intro z _ h; simp [up] at h; omega
              | succ k ihk =>
                intro z hz h
                by_cases hp : par ps z < 0
                · exact ⟨0, z, hz, rfl, hp⟩
                · rw [up_succ hz] at h
                  obtain ⟨q, hq⟩ := Int.eq_ofNat_of_zero_le (show 0 ≤ par ps z by omega)
                  have hvz := hv ps[z] (List.getElem_mem hz)
                  have hpz : par ps z = ps[z] := by simp [par, hz]
                  rw [hq] at h
                  obtain ⟨k', r, a, b, c⟩ := ihk q (by omega) h
                  exact ⟨k' + 1, r, a, by rw [up_succ hz, hq]; exact b, c⟩
            exact hgen ps.length t0 ht0l (hup t0 ht0l)
          obtain ⟨k, r, hrl, hkr, hrneg⟩ := hroot
          have hrh : r = h := by
            have hle := (countP_le_one (fun i => decide (ps[i]?.getD 0 < 0)) ps.length).1 (by
              have := hroots
              unfold rootsF at this
              rw [countP_list ps _ 0] at this
              omega)
            have hr1 : ps[r]?.getD 0 < 0 := by simp [par, hrl] at hrneg; simp [hrl]; exact hrneg
            have hh1 : ps[h]?.getD 0 < 0 := by rw [hph]; exact hneg
            rcases Nat.lt_trichotomy r h with hlt | heq | hgt
            · exact absurd ⟨by simpa using hr1, by simpa using hh1⟩ (hle r h hlt hhl)
            · exact heq
            · exact absurd ⟨by simpa using hh1, by simpa using hr1⟩ (hle h r hgt hrl)
          have h1 := up_pos_order hO.1 hv hall ht0l hkr
          have h2 := hafter t0 ht0
          rw [hrh] at h1
          omega
        by_cases hneg : ps[h] < 0
        · exact .inl ⟨hnr hneg, by simp [par, hhl]; exact hneg⟩
        right
        obtain ⟨p, hp⟩ := Int.eq_ofNat_of_zero_le (show 0 ≤ ps[h] by omega)
        have hpl : p < ps.length := by omega
        have hpt : p ∈ t := by
          have hpD := hall p hpl
          have hlt : D.idxOf h < D.idxOf p := by
            have hnd2 := hO.1.nodup
            obtain ⟨i, hi, hih⟩ := List.getElem_of_mem hhD
            obtain ⟨j, hj, hjp⟩ := List.getElem_of_mem hpD
            have e1 : D.idxOf h = i := by rw [← hih]; exact hnd2.idxOf_getElem i hi
            have e2 : D.idxOf p = j := by rw [← hjp]; exact hnd2.idxOf_getElem j hj
            have hin := hO.1.after hhl (show par ps h = (p : Int) by simp [par, hhl, hp]) (show D[j]? = some p by rw [List.getElem?_eq_getElem hj, hjp])
            rw [List.mem_take_iff_getElem] at hin
            obtain ⟨i', hi', he⟩ := hin
            have : D.idxOf h = i' := by rw [← he]; exact hnd2.idxOf_getElem i' (by omega)
            omega
          rw [← hpre] at hpD
          simp only [List.mem_append, List.mem_cons] at hpD
          rcases hpD with h1 | h1 | h1
          · exfalso
            have hnd2 := hnd
            rw [← hpre, List.nodup_append] at hnd2
            have hhp : h ∉ pre := fun hm => hnd2.2.2 h hm h (by simp) rfl
            rw [← hpre, List.idxOf_append, if_neg hhp, List.idxOf_append, if_pos h1] at hlt
            have := List.idxOf_lt_length_of_mem h1
            omega
          · rw [h1] at hlt; omega
          · exact h1
        refine ⟨p, hpt, by simp [par, hhl]; exact hp, fun v hhv hz => ?_⟩
        obtain ⟨z, hz, hzv⟩ := hz
        refine Classical.byContradiction fun hnp => ?_
        have htoph := hlink h p v (by omega) (by rw [hph]; exact hp) hhv hnp
        have hzD : z ∈ D := by rw [← hpre]; simp [hz]
        have hzl := hO.1.lt hzD
        obtain ⟨t', k', h1, h2, h3⟩ := htopOf v z (by omega) hzv
        have hth : t' = h := by
          rcases Nat.lt_trichotomy t' h with hlt | heq | hgt
          · exact absurd ⟨h3, htoph⟩ (ht v t' h hlt (by omega))
          · exact heq
          · exact absurd ⟨htoph, h3⟩ (ht v h t' hgt (by omega))
        have h4 := up_pos_order hO.1 hv hall hzl h2
        have h5 := hafter z hz
        rw [hth] at h4
        omega
    exact hsuf D [] rfl

end Go.Proofs.YthgaflmldbgbnaaGreatDoor.JT
end
namespace Go.Proofs.YthgaflmldbgbnaaGreatDoor
section
open Go.RowKit Go.Sort

def satF (a : At) (f : Nat → RL.V) : Prop := rowF a.vs f ∈ a.P
theorem satF_congr {a : At} {f g : Nat → RL.V} (h : ∀ v ∈ a.vs, f v = g v) : satF a f ↔ satF a g := by unfold satF; rw [row_eq.2 h]
def satD (X : Nat → At) (D : Nat → Prop) (f : Nat → RL.V) : Prop := ∀ i, D i → satF (X i) f
def inD (X : Nat → At) (D : Nat → Prop) (v : Nat) : Prop := ∃ i, D i ∧ v ∈ (X i).vs
theorem glue {X : Nat → At} {D E : Nat → Prop} {f g : Nat → RL.V} (hf : satD X D f) (hg : satD X E g) (hag : ∀ v, inD X D v → inD X E v → f v = g v) :
    ∃ h, satD X (fun i => D i ∨ E i) h ∧ (∀ v, inD X D v → h v = f v) ∧ ∀ v, inD X E v → h v = g v := by
  classical
  have h1 : ∀ v, inD X D v → (if inD X E v then g v else f v) = f v := fun v hv => by
    by_cases h : inD X E v
    · rw [if_pos h, hag v hv h]
    · rw [if_neg h]
  have h2 : ∀ v, inD X E v → (if inD X E v then g v else f v) = g v := fun v hv => if_pos hv
  refine ⟨fun v => if inD X E v then g v else f v, fun i hi => ?_, h1, h2⟩
  rcases hi with hi | hi
  · exact (satF_congr fun v hv => h1 v ⟨i, hi, hv⟩).2 (hf i hi)
  · exact (satF_congr fun v hv => h2 v ⟨i, hi, hv⟩).2 (hg i hi)
def PrF (X : Nat → At) (T : List Nat) (D : Nat → Prop) (x : RL.R) : Prop := ∃ f, satD X D f ∧ rowF T f = x
theorem PrF.mono {X : Nat → At} {T : List Nat} {D E : Nat → Prop} (h : ∀ i, E i → D i) {x : RL.R} (hx : PrF X T D x) : PrF X T E x := by
  obtain ⟨f, h1, h2⟩ := hx
  exact ⟨f, fun i hi => h1 i (h i hi), h2⟩

section
variable {X : Nat → At} {D E : Nat → Prop} {T1 T2 : List Nat} {A B : List RL.R}
theorem semi_pr (hA1 : ∀ x ∈ A, PrF X T1 D x) (hB1 : ∀ x ∈ B, PrF X T2 E x) (hA2 : ∀ x, PrF X T1 (fun i => D i ∨ E i) x → x ∈ A) (hB2 : ∀ x, PrF X T2 (fun i => D i ∨ E i) x → x ∈ B)
    (n1 : T1.Nodup) (n2 : T2.Nodup) (s1 : ∀ v ∈ T1, inD X D v) (sep : ∀ v, inD X D v → inD X E v → v ∈ T1 ∧ v ∈ T2) (x : RL.R) : x ∈ semiF ⟨T1, A⟩ ⟨T2, B⟩ ↔ PrF X T1 (fun i => D i ∨ E i) x := by
  rw [mem_semiF]
  constructor
  · rintro ⟨hx, y, hy, hag⟩
    obtain ⟨f, hf, rfl⟩ := hA1 x hx
    obtain ⟨g, hg, rfl⟩ := hB1 y hy
    obtain ⟨h, h1, h2, h3⟩ := glue hf hg fun v hv hv' => by
      obtain ⟨q1, q2⟩ := sep v hv hv'
      have := hag v q1 q2
      rw [getF_row n1 f q1, getF_row n2 g q2] at this
      exact this
    exact ⟨h, h1, row_eq.2 fun v hv => h2 v (s1 v hv)⟩
  · intro hx
    obtain ⟨f, hf, rfl⟩ := id hx
    refine ⟨hA2 _ hx, rowF T2 f, hB2 _ ⟨f, hf, rfl⟩, fun v hv hv' => ?_⟩
    rw [getF_row n1 f hv, getF_row n2 f hv']
theorem join_pr {U : List Nat} (hU : ∀ v, v ∈ U ↔ v ∈ T1 ∨ v ∈ T2) (hA1 : ∀ x ∈ A, PrF X T1 D x) (hB1 : ∀ x ∈ B, PrF X T2 E x) (hA2 : ∀ x, PrF X T1 (fun i => D i ∨ E i) x → x ∈ A) (hB2 : ∀ x, PrF X T2 (fun i => D i ∨ E i) x → x ∈ B)
    (n1 : T1.Nodup) (n2 : T2.Nodup) (s1 : ∀ v ∈ T1, inD X D v) (s2 : ∀ v ∈ T2, inD X E v) (sep : ∀ v, inD X D v → inD X E v → v ∈ T1 ∧ v ∈ T2) (z : RL.R) :
    (∃ x ∈ A, ∃ y ∈ B, agrF T1 T2 x y ∧ z = mergeF U T1 T2 x y) ↔ PrF X U (fun i => D i ∨ E i) z := by
  constructor
  · rintro ⟨x, hx, y, hy, hag, rfl⟩
    obtain ⟨f, hf, rfl⟩ := hA1 x hx
    obtain ⟨g, hg, rfl⟩ := hB1 y hy
    obtain ⟨h, h1, h2, h3⟩ := glue hf hg fun v hv hv' => by
      obtain ⟨q1, q2⟩ := sep v hv hv'
      have := hag v q1 q2
      rw [getF_row n1 f q1, getF_row n2 g q2] at this
      exact this
    refine ⟨h, h1, ?_⟩
    unfold mergeF
    refine row_eq.2 fun v hv => ?_
    by_cases hm : v ∈ T1
    · rw [if_pos hm, getF_row n1 f hm]; exact h2 v (s1 v hm)
    · have hm2 := ((hU v).1 hv).resolve_left hm
      rw [if_neg hm, getF_row n2 g hm2]; exact h3 v (s2 v hm2)
  · rintro ⟨f, hf, rfl⟩
    refine ⟨rowF T1 f, hA2 _ ⟨f, hf, rfl⟩, rowF T2 f, hB2 _ ⟨f, hf, rfl⟩, fun v hv hv' => ?_, ?_⟩
    · rw [getF_row n1 f hv, getF_row n2 f hv']
    · unfold mergeF
      refine row_eq.2 fun v hv => ?_
      by_cases hm : v ∈ T1
      · rw [if_pos hm, getF_row n1 f hm]
      · have hm2 := ((hU v).1 hv).resolve_left hm
        rw [if_neg hm, getF_row n2 f hm2]
end

def clF (m : Nat) (own : Nat → Nat) (n : Nat) (i : Nat) : Prop := i < m ∧ own i = n
structure Own (X : Nat → At) (m : Nat) (l : List Nat) (own : Nat → Nat) : Prop where
  lt : ∀ i, i < m → own i ∈ l
  self : ∀ n ∈ l, n < m ∧ own n = n
  sep : ∀ n ∈ l, ∀ n' ∈ l, n ≠ n' → ∀ v, inD X (clF m own n) v → inD X (clF m own n') v → v ∈ (X n).vs ∧ v ∈ (X n').vs
def Cut (X : Nat → At) (m c p : Nat) (D : Nat → Prop) : Prop := (∀ i, D i → i < m) ∧ D c ∧ ¬ D p ∧ ∀ v, inD X D v → inD X (fun i => i < m ∧ ¬ D i) v → v ∈ (X c).vs ∧ v ∈ (X p).vs
section
variable {X : Nat → At} {m c p : Nat} {t : List Nat} {own : Nat → Nat}
theorem Own.start {l : List Nat} (h : ∀ i, i ∈ l ↔ i < m) : Own X m l id where
  lt := fun i hi => (h i).2 hi
  self := fun n hn => ⟨(h n).1 hn, rfl⟩
  sep := fun n _ n' _ _ v h1 h2 => by
    obtain ⟨i, ⟨_, e⟩, hv⟩ := h1
    obtain ⟨j, ⟨_, e'⟩, hv'⟩ := h2
    have e : i = n := e
    have e' : j = n' := e'
    subst e e'
    exact ⟨hv, hv'⟩
theorem Own.cut (h : Own X m (c :: t) own) (hp : p ∈ t) (hc : c ∉ t) (hr : ∀ v ∈ (X c).vs, (∃ z ∈ t, v ∈ (X z).vs) → v ∈ (X p).vs) : Cut X m c p (clF m own c) := by
  refine ⟨fun i hi => hi.1, h.self c (by simp), fun hd => ?_, fun v h1 h2 => ?_⟩
  · have := (h.self p (by simp [hp])).2
    rw [hd.2] at this
    exact hc (this ▸ hp)
  · obtain ⟨j, ⟨hj, hn⟩, hv⟩ := h2
    have hne : own j ≠ c := fun e => hn ⟨hj, e⟩
    have hm : own j ∈ t := by
      rcases List.mem_cons.1 (h.lt j hj) with e | e
      · exact absurd e hne
      · exact e
    obtain ⟨q1, q2⟩ := h.sep c (by simp) (own j) (by simp [hm]) hne.symm v h1 ⟨j, ⟨hj, rfl⟩, hv⟩
    exact ⟨q1, hr v q1 ⟨_, hm, q2⟩⟩
theorem clF_step (_hpc : p ≠ c) (n i : Nat) (hn : n ≠ c) : clF m (fun i => if own i = c then p else own i) n i ↔ clF m own n i ∨ (n = p ∧ clF m own c i) := by
  unfold clF
  by_cases h : own i = c
  · simp only [if_pos h]
    constructor
    · rintro ⟨h1, h2⟩; exact .inr ⟨h2.symm, h1, h⟩
    · rintro (⟨h1, h2⟩ | ⟨h1, h2, _⟩)
      · exact absurd (h2.symm.trans h) hn
      · exact ⟨h2, h1.symm⟩
  · simp only [if_neg h]
    constructor
    · exact .inl
    · rintro (h1 | ⟨_, _, h2⟩)
      · exact h1
      · exact absurd h2 h
theorem inD_or {D E F : Nat → Prop} (h : ∀ i, D i ↔ E i ∨ F i) (v : Nat) : inD X D v ↔ inD X E v ∨ inD X F v := by
  constructor
  · rintro ⟨i, hi, hv⟩
    rcases (h i).1 hi with h | h
    · exact .inl ⟨i, h, hv⟩
    · exact .inr ⟨i, h, hv⟩
  · rintro (⟨i, hi, hv⟩ | ⟨i, hi, hv⟩)
    · exact ⟨i, (h i).2 (.inl hi), hv⟩
    · exact ⟨i, (h i).2 (.inr hi), hv⟩
theorem Own.step (h : Own X m (c :: t) own) (hp : p ∈ t) (hc : c ∉ t) (hr : ∀ v ∈ (X c).vs, (∃ z ∈ t, v ∈ (X z).vs) → v ∈ (X p).vs) : Own X m t (fun i => if own i = c then p else own i) := by
  have hpc : p ≠ c := fun e => hc (e ▸ hp)
  have hne : ∀ n ∈ t, n ≠ c := fun n hn e => hc (e ▸ hn)
  have key : ∀ n ∈ t, ∀ n' ∈ t, n ≠ n' → ∀ v, inD X (clF m own n) v ∨ (n = p ∧ inD X (clF m own c) v) → inD X (clF m own n') v → v ∈ (X n).vs ∧ v ∈ (X n').vs := fun n hn n' hn' hnn v h1 h2 => by
    rcases h1 with h1 | ⟨rfl, h1⟩
    · exact h.sep n (by simp [hn]) n' (by simp [hn']) hnn v h1 h2
    · obtain ⟨q1, q2⟩ := h.sep c (by simp) n' (by simp [hn']) (fun e => hne n' hn' e.symm) v h1 h2
      exact ⟨hr v q1 ⟨n', hn', q2⟩, q2⟩
  have hin : ∀ n ∈ t, ∀ v, inD X (clF m (fun i => if own i = c then p else own i) n) v → inD X (clF m own n) v ∨ (n = p ∧ inD X (clF m own c) v) := fun n hn v => by
    rintro ⟨i, hi, hv⟩
    rcases (clF_step hpc n i (hne n hn)).1 hi with h1 | ⟨h1, h2⟩
    · exact .inl ⟨i, h1, hv⟩
    · exact .inr ⟨h1, i, h2, hv⟩
  refine ⟨fun i hi => ?_, fun n hn => ?_, fun n hn n' hn' hnn v h1 h2 => ?_⟩
  · by_cases e : own i = c
    · simp only [if_pos e]; exact hp
    · simp only [if_neg e]
      exact (List.mem_cons.1 (h.lt i hi)).resolve_left e
  · obtain ⟨q1, q2⟩ := h.self n (by simp [hn])
    refine ⟨q1, ?_⟩
    simp only [q2, if_neg (hne n hn)]
  · have k1 := hin n hn v h1
    have k2 := hin n' hn' v h2
    rcases k2 with k2 | ⟨rfl, k2⟩
    · exact key n hn n' hn' hnn v k1 k2
    · rcases k1 with k1 | ⟨e, _⟩
      · have := key n' hn' n hn hnn.symm v (.inr ⟨rfl, k2⟩) k1
        exact ⟨this.2, this.1⟩
      · exact absurd e hnn
end

noncomputable def upS (X : Nat → At) (ps : List Int) (R : Nat → List RL.R) (c : Nat) : Nat → List RL.R :=
  if JT.par ps c < 0 then R else fun n => if n = (JT.par ps c).toNat then semiF ⟨(X n).vs, R n⟩ ⟨(X c).vs, R c⟩ else R n
noncomputable def dnS (X : Nat → At) (ps : List Int) (c : Nat) (R : Nat → List RL.R) : Nat → List RL.R :=
  if JT.par ps c < 0 then R else fun n => if n = c then semiF ⟨(X c).vs, R c⟩ ⟨(X (JT.par ps c).toNat).vs, R (JT.par ps c).toNat⟩ else R n

section
variable {X : Nat → At} {m : Nat} {ps : List Int} (hn : ∀ i, i < m → (X i).vs.Nodup)
include hn
theorem up_run : ∀ (l : List Nat) (own : Nat → Nat) (R : Nat → List RL.R), Own X m l own → JT.PRip ps (fun i v => v ∈ (X i).vs) l → l.Nodup → (∀ n ∈ l, ∀ x, x ∈ R n ↔ PrF X (X n).vs (clF m own n) x) →
    (∀ n, n ∉ l → l.foldl (upS X ps) R n = R n) ∧ ∀ n ∈ l, (JT.par ps n < 0 ∧ ∀ x, x ∈ l.foldl (upS X ps) R n ↔ PrF X (X n).vs (fun i => i < m) x) ∨ ∃ (p : Nat) (D : Nat → Prop), p ∈ l ∧ JT.par ps n = (p : Int) ∧ Cut X m n p D ∧ ∀ x, x ∈ l.foldl (upS X ps) R n ↔ PrF X (X n).vs D x
  | [], _, _, _, _, _, _ => ⟨fun _ _ => rfl, fun n h => (by simp at h)⟩
  | c :: t, own, R, hO, hR, hnd, hI => by
    obtain ⟨hct, hnt⟩ := List.nodup_cons.1 hnd
    obtain ⟨h1, h2⟩ := hR
    rw [List.foldl_cons]
    rcases h1 with ⟨rfl, hneg⟩ | ⟨p, hp, hpar, hr⟩
    · have e : upS X ps R c = R := by unfold upS; rw [if_pos hneg]
      rw [e]
      refine ⟨fun _ _ => rfl, fun n hn' => ?_⟩
      obtain rfl := List.mem_singleton.1 hn'
      refine .inl ⟨hneg, fun x => ?_⟩
      rw [List.foldl_nil, hI n (by simp)]
      have : ∀ i, clF m own n i ↔ i < m := fun i => ⟨fun h => h.1, fun h => ⟨h, List.mem_singleton.1 (hO.lt i h)⟩⟩
      exact ⟨PrF.mono fun i hi => (this i).2 hi, PrF.mono fun i hi => (this i).1 hi⟩
    · have hpc : p ≠ c := fun e => hct (e ▸ hp)
      have hcut := hO.cut hp hct hr
      have hst := hO.step hp hct hr
      have e : ∀ n, upS X ps R c n = if n = p then semiF ⟨(X n).vs, R n⟩ ⟨(X c).vs, R c⟩ else R n := fun n => by
        unfold upS
        rw [hpar, if_neg (by omega), Int.toNat_natCast]
      have hpm := (hO.self p (by simp [hp])).1
      have hcm := (hO.self c (by simp)).1
      have hI2 : ∀ n ∈ t, ∀ x, x ∈ upS X ps R c n ↔ PrF X (X n).vs (clF m (fun i => if own i = c then p else own i) n) x := fun n hnt x => by
        have hnc : n ≠ c := fun e => hct (e ▸ hnt)
        rw [e]
        by_cases hnp : n = p
        · subst hnp
          rw [if_pos rfl]
          have hs := semi_pr (X := X) (D := clF m own n) (E := clF m own c) (fun x hx => (hI n (by simp [hnt]) x).1 hx) (fun x hx => (hI c (by simp) x).1 hx) (fun x hx => (hI n (by simp [hnt]) x).2 (hx.mono fun i hi => .inl hi)) (fun x hx => (hI c (by simp) x).2 (hx.mono fun i hi => .inr hi)) (hn n hpm) (hn c hcm) (fun v hv => ⟨n, hO.self n (by simp [hnt]), hv⟩) (fun v a b => hO.sep n (by simp [hnt]) c (by simp) hnc v a b) x
          rw [hs]
          exact ⟨PrF.mono fun i hi => by rcases (clF_step hpc n i hnc).1 hi with h | ⟨_, h⟩; exact .inl h; exact .inr h, PrF.mono fun i hi => (clF_step hpc n i hnc).2 (hi.elim .inl fun h => .inr ⟨rfl, h⟩)⟩
        · rw [if_neg hnp, hI n (by simp [hnt])]
          exact ⟨PrF.mono fun i hi => ((clF_step hpc n i hnc).1 hi).resolve_right fun h => hnp h.1, PrF.mono fun i hi => (clF_step hpc n i hnc).2 (.inl hi)⟩
      obtain ⟨k1, k2⟩ := up_run t _ _ hst h2 hnt hI2
      refine ⟨fun n hnl => ?_, fun n hnl => ?_⟩
      · rw [k1 n (fun h => hnl (by simp [h])), e, if_neg (fun h => hnl (by simp [h, hp]))]
      · rcases List.mem_cons.1 hnl with rfl | hnl
        · right
          refine ⟨p, _, by simp [hp], hpar, hcut, fun x => ?_⟩
          rw [k1 n hct, e, if_neg hpc.symm]
          exact hI n (by simp) x
        · rcases k2 n hnl with h | ⟨p', D, q1, q2, q3, q4⟩
          · exact .inl h
          · exact .inr ⟨p', D, by simp [q1], q2, q3, q4⟩
theorem dn_run {R : Nat → List RL.R} : ∀ (l : List Nat), JT.PRip ps (fun i v => v ∈ (X i).vs) l → l.Nodup → (∀ n ∈ l, n < m) →
    (∀ n ∈ l, (JT.par ps n < 0 ∧ ∀ x, x ∈ R n ↔ PrF X (X n).vs (fun i => i < m) x) ∨ ∃ (p : Nat) (D : Nat → Prop), JT.par ps n = (p : Int) ∧ Cut X m n p D ∧ ∀ x, x ∈ R n ↔ PrF X (X n).vs D x) →
    (∀ n, n ∉ l → l.foldr (dnS X ps) R n = R n) ∧ ∀ n ∈ l, ∀ x, x ∈ l.foldr (dnS X ps) R n ↔ PrF X (X n).vs (fun i => i < m) x
  | [], _, _, _, _ => ⟨fun _ _ => rfl, fun n h => (by simp at h)⟩
  | c :: t, hR, hnd, hlt, hI => by
    obtain ⟨hct, hnt⟩ := List.nodup_cons.1 hnd
    obtain ⟨h1, h2⟩ := hR
    obtain ⟨k1, k2⟩ := dn_run t h2 hnt (fun n h => hlt n (by simp [h])) (fun n h => hI n (by simp [h]))
    rw [List.foldr_cons]
    rcases h1 with ⟨rfl, hneg⟩ | ⟨p, hp, hpar, hr⟩
    · have e : dnS X ps c R = R := by unfold dnS; rw [if_pos hneg]
      rw [List.foldr_nil, e]
      refine ⟨fun _ _ => rfl, fun n hn' => ?_⟩
      obtain rfl := List.mem_singleton.1 hn'
      rcases hI n (by simp) with ⟨_, h⟩ | ⟨p, D, q, _⟩
      · exact h
      · omega
    · have hpc : p ≠ c := fun e => hct (e ▸ hp)
      generalize hQ : t.foldr (dnS X ps) R = Q at *
      have e : ∀ n, dnS X ps c Q n = if n = c then semiF ⟨(X c).vs, Q c⟩ ⟨(X p).vs, Q p⟩ else Q n := fun n => by
        unfold dnS
        rw [hpar, if_neg (by omega), Int.toNat_natCast]
      refine ⟨fun n hnl => ?_, fun n hnl x => ?_⟩
      · rw [e, if_neg (fun h => hnl (by simp [h])), k1 n (fun h => hnl (by simp [h]))]
      · rw [e]
        rcases List.mem_cons.1 hnl with rfl | hnl
        · rw [if_pos rfl, k1 n hct]
          rcases hI n (by simp) with ⟨h, _⟩ | ⟨p', D, q1, q2, q3⟩
          · omega
          obtain rfl : p' = p := by omega
          obtain ⟨c1, c2, c3, c4⟩ := q2
          have hall : ∀ i, (D i ∨ (i < m ∧ ¬ D i)) ↔ i < m := fun i => ⟨fun h => h.elim (c1 i) fun h => h.1, fun h => (Classical.em (D i)).imp_right fun h' => ⟨h, h'⟩⟩
          have hpm := hlt p' (by simp [hp])
          have hs := semi_pr (X := X) (D := D) (E := fun i => i < m ∧ ¬ D i) (A := R n) (B := Q p') (T1 := (X n).vs) (T2 := (X p').vs) (fun x hx => (q3 x).1 hx) (fun x hx => ((k2 p' hp x).1 hx).mono fun i hi => hi.1) (fun x hx => (q3 x).2 (hx.mono fun i hi => .inl hi)) (fun x hx => (k2 p' hp x).2 (hx.mono fun i hi => (hall i).2 hi)) (hn n (c1 n c2)) (hn p' hpm) (fun v hv => ⟨n, c2, hv⟩) (fun v a b => c4 v a b) x
          rw [hs]
          exact ⟨PrF.mono fun i hi => (hall i).2 hi, PrF.mono fun i hi => (hall i).1 hi⟩
        · rw [if_neg (show ¬ n = c from fun h => hct (h ▸ hnl))]
          exact k2 n hnl x
end

def projA (a : At) (q : Nat → Bool) : At := ⟨a.vs.filter q, RL.ofF (a.P.map fun x => rowF (a.vs.filter q) (getF a.vs x))⟩
noncomputable def joinA (U : List Nat) (a b : At) : At := by
  classical
  exact ⟨U, RL.ofF (a.P.flatMap fun x => (b.P.filter fun y => decide (agrF a.vs b.vs x y)).map fun y => mergeF U a.vs b.vs x y)⟩
theorem mem_joinA {U : List Nat} {a b : At} {z : RL.R} : z ∈ (joinA U a b).P ↔ ∃ x ∈ a.P, ∃ y ∈ b.P, agrF a.vs b.vs x y ∧ z = mergeF U a.vs b.vs x y := by
  unfold joinA
  simp only [RL.mem_ofF, List.mem_flatMap, List.mem_map, List.mem_filter, decide_eq_true_eq]
  constructor
  · rintro ⟨x, hx, y, ⟨hy, hag⟩, rfl⟩; exact ⟨x, hx, y, hy, hag, rfl⟩
  · rintro ⟨x, hx, y, hy, hag, rfl⟩; exact ⟨x, hx, y, ⟨hy, hag⟩, rfl⟩
theorem proj_pr {X : Nat → At} {D : Nat → Prop} {a : At} {q : Nat → Bool} (hn : a.vs.Nodup) (h : ∀ x, x ∈ a.P ↔ PrF X a.vs D x) (x : RL.R) : x ∈ (projA a q).P ↔ PrF X (projA a q).vs D x := by
  unfold projA
  simp only [RL.mem_ofF, List.mem_map]
  constructor
  · rintro ⟨y, hy, rfl⟩
    obtain ⟨f, hf, rfl⟩ := (h y).1 hy
    exact ⟨f, hf, (row_eq.2 fun v hv => (getF_row hn f (List.mem_filter.1 hv).1)).symm⟩
  · rintro ⟨f, hf, rfl⟩
    exact ⟨rowF a.vs f, (h _).2 ⟨f, hf, rfl⟩, row_eq.2 fun v hv => getF_row hn f (List.mem_filter.1 hv).1⟩
def uniV (us vs : List Nat) : List Nat := (List.range 32).filter fun v => decide (v ∈ us ∨ v ∈ vs)
theorem uniV_asc (us vs : List Nat) : (uniV us vs).Pairwise (· < ·) := List.pairwise_lt_range.filter _
theorem mem_uniV {us vs : List Nat} (hu : ∀ v ∈ us, v < 32) (hv : ∀ v ∈ vs, v < 32) (v : Nat) : v ∈ uniV us vs ↔ v ∈ us ∨ v ∈ vs := by
  unfold uniV
  rw [List.mem_filter, List.mem_range, decide_eq_true_eq]
  exact ⟨fun h => h.2, fun h => ⟨h.elim (hu v) (hv v), h⟩⟩
theorem nodup_of_asc {l : List Nat} (h : l.Pairwise (· < ·)) : l.Nodup := h.imp fun h e => by omega

structure EvI (X : Nat → At) (m : Nat) (keep : Nat → Bool) (own : Nat → Nat) (n : Nat) (a : At) : Prop where
  asc : a.vs.Pairwise (· < ·)
  lt : ∀ v ∈ a.vs, v < 32
  sub : ∀ v ∈ a.vs, inD X (clF m own n) v
  all : ∀ v ∈ (X n).vs, v ∈ a.vs
  kp : ∀ v, keep v = true → inD X (clF m own n) v → v ∈ a.vs
  rows : ∀ x, x ∈ a.P ↔ PrF X a.vs (fun i => i < m) x
theorem ev_step {X : Nat → At} {m c p : Nat} {keep : Nat → Bool} {t : List Nat} {own : Nat → Nat} {a b : At} (h : Own X m (c :: t) own) (hp : p ∈ t) (hc : c ∉ t) (hr : ∀ v ∈ (X c).vs, (∃ z ∈ t, v ∈ (X z).vs) → v ∈ (X p).vs) (ha : EvI X m keep own p a) (hb : EvI X m keep own c b) :
    EvI X m keep (fun i => if own i = c then p else own i) p (joinA (uniV a.vs (projA b fun v => keep v || decide (v ∈ (X p).vs)).vs) a (projA b fun v => keep v || decide (v ∈ (X p).vs))) := by
  have hpc : p ≠ c := fun e => hc (e ▸ hp)
  obtain ⟨c1, c2, c3, c4⟩ := h.cut hp hc hr
  have hpr := proj_pr (q := fun v => keep v || decide (v ∈ (X p).vs)) (nodup_of_asc hb.asc) hb.rows
  have hpv : ∀ v, v ∈ (projA b fun v => keep v || decide (v ∈ (X p).vs)).vs ↔ v ∈ b.vs ∧ (keep v = true ∨ v ∈ (X p).vs) := fun v => by unfold projA; simp
  have hpa : (projA b fun v => keep v || decide (v ∈ (X p).vs)).vs.Pairwise (· < ·) := hb.asc.filter _
  generalize (projA b fun v => keep v || decide (v ∈ (X p).vs)) = d at *
  have hU := mem_uniV ha.lt (fun v hv => hb.lt v ((hpv v).1 hv).1) (vs := d.vs)
  have hcl : ∀ i, clF m (fun i => if own i = c then p else own i) p i ↔ clF m own p i ∨ clF m own c i := fun i => by rw [clF_step hpc p i hpc]; simp
  have hall : ∀ i, ((i < m ∧ ¬ clF m own c i) ∨ clF m own c i) ↔ i < m := fun i => ⟨fun h => h.elim (fun h => h.1) (c1 i), fun h => (Classical.em (clF m own c i)).symm.imp_left fun h' => ⟨h, h'⟩⟩
  have hdis : ∀ v, inD X (clF m own p) v → inD X (fun i => i < m ∧ ¬ clF m own c i) v := fun v ⟨i, hi, hv⟩ => ⟨i, ⟨hi.1, fun h => hpc (hi.2.symm.trans h.2)⟩, hv⟩
  refine ⟨uniV_asc _ _, fun v hv => ((hU v).1 hv).elim (ha.lt v) fun h => hb.lt v ((hpv v).1 h).1, fun v hv => (inD_or hcl v).2 (((hU v).1 hv).imp (ha.sub v) fun h => hb.sub v ((hpv v).1 h).1), fun v hv => (hU v).2 (.inl (ha.all v hv)), fun v hk hv => (hU v).2 (((inD_or hcl v).1 hv).imp (ha.kp v hk) fun h => (hpv v).2 ⟨hb.kp v hk h, .inl hk⟩), fun z => ?_⟩
  rw [mem_joinA]
  have hj := join_pr (X := X) (D := fun i => i < m ∧ ¬ clF m own c i) (E := clF m own c) (A := a.P) (B := d.P) (T1 := a.vs) (T2 := d.vs) (U := uniV a.vs d.vs) hU (fun x hx => ((ha.rows x).1 hx).mono fun i hi => hi.1) (fun x hx => ((hpr x).1 hx).mono fun i hi => hi.1) (fun x hx => (ha.rows x).2 (hx.mono fun i hi => (hall i).2 hi)) (fun x hx => (hpr x).2 (hx.mono fun i hi => (hall i).2 hi)) (nodup_of_asc ha.asc) (nodup_of_asc hpa) (fun v hv => hdis v (ha.sub v hv)) (fun v hv => hb.sub v ((hpv v).1 hv).1) (fun v h1 h2 => by
    obtain ⟨q1, q2⟩ := c4 v h2 h1
    exact ⟨ha.all v q2, (hpv v).2 ⟨hb.all v q1, .inr q2⟩⟩) z
  refine hj.trans ⟨PrF.mono fun i hi => (hall i).2 hi, PrF.mono fun i hi => (hall i).1 hi⟩
theorem EvI.keep_ {X : Nat → At} {m c p n : Nat} {keep : Nat → Bool} {own : Nat → Nat} {a : At} (h : EvI X m keep own n a) (hpc : p ≠ c) (hn : n ≠ c) (hnp : n ≠ p) : EvI X m keep (fun i => if own i = c then p else own i) n a := by
  have hcl : ∀ i, clF m (fun i => if own i = c then p else own i) n i ↔ clF m own n i := fun i => by rw [clF_step hpc n i hn]; simp [hnp]
  have hin : ∀ v, inD X (clF m (fun i => if own i = c then p else own i) n) v ↔ inD X (clF m own n) v := fun v => ⟨fun ⟨i, hi, hv⟩ => ⟨i, (hcl i).1 hi, hv⟩, fun ⟨i, hi, hv⟩ => ⟨i, (hcl i).2 hi, hv⟩⟩
  exact ⟨h.asc, h.lt, fun v hv => (hin v).2 (h.sub v hv), h.all, fun v hk hv => h.kp v hk ((hin v).1 hv), h.rows⟩
end
end Go.Proofs.YthgaflmldbgbnaaGreatDoor

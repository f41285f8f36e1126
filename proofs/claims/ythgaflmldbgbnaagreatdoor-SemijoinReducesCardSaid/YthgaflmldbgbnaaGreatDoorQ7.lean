/- Parts of the proof, merged: G14, JOrd, JJoin, JRer, JGyo, JSound, JComp, JRip. -/
import Derived.Test.YthgaflmldbgbnaaGreatDoorQ6
import Derived.Test.YthgaflmldbgbnaaGreatDoorQ3

set_option maxRecDepth 100000
namespace Go.Proofs.YthgaflmldbgbnaaGreatDoor
section
open Go.RowKit Go.Sort Go.ChangeMaps Go.WideShapes

def RaV (w : World) (v : Value) (a : RA) : Prop := ∃ VA VC PA PC, v = .agg #[.slice VA a.vs.length VC, .int .i64 a.ar, .slice PA a.P.length PC] ∧ a.vs.length ≤ VC ∧ VC ≤ 9223372036854775807 ∧ a.P.length ≤ PC ∧ PC ≤ 9223372036854775807 ∧ SlI .i64 w.heap.size w VA a.vs ∧ SlRs w.heap.size w PA a.P
def At.ra (a : At) : RA := ⟨a.vs.map Int.ofNat, (a.vs.length : Nat), a.P⟩
theorem At.ra_at (a : At) : a.ra.at = a := by
  unfold At.ra RA.at
  simp only [List.map_map]
  have e : a.vs.map (Int.toNat ∘ Int.ofNat) = a.vs := by
    conv => rhs; rw [← List.map_id a.vs]
    exact List.map_congr_left fun v _ => Int.toNat_natCast v
  rw [e]
theorem RA.good {a : RA} (h : errAt 32 a = 0) : a.at.ra = a := by
  obtain ⟨h1, h2, h3⟩ := errAt_zero h
  unfold At.ra RA.at
  have e : (a.vs.map Int.toNat).map Int.ofNat = a.vs := by
    rw [List.map_map]
    conv => rhs; rw [← List.map_id a.vs]
    exact List.map_congr_left fun v hv => Int.toNat_of_nonneg (h2 v hv).1
  simp only [e, List.length_map, h3]
theorem Gd.of {a : RA} (hs : Small a) (h : errAt 32 a = 0) : Gd a.at := by
  obtain ⟨h1, h2, h3⟩ := errAt_zero h
  refine ⟨?_, fun v hv => ?_, hs.hd h, hs.ss, hs.I, hs.many⟩
  · show (a.vs.map Int.toNat).Pairwise _
    refine List.pairwise_map.2 (h1.imp_of_mem fun {x y} hx hy hlt => ?_)
    have := h2 x hx
    have := h2 y hy
    omega
  · obtain ⟨x, hx, rfl⟩ := List.mem_map.1 hv
    have := h2 x hx
    omega
theorem AtV.ra {w : World} {v : Value} {a : At} (h : AtV w v a) : RaV w v a.ra := by
  obtain ⟨VA, VC, PA, PC, e, c1, c2, c3, c4, h1, h2⟩ := h
  refine ⟨VA, VC, PA, PC, ?_, ?_, c2, c3, c4, h1, h2⟩
  · rw [e]; unfold At.ra; simp only [List.length_map]
  · unfold At.ra; simp only [List.length_map]; exact c1
theorem Gd.err0 {a : At} (h : Gd a) : errAt 32 a.ra = 0 := by
  rw [errAt_arity (n := 32)]
  · rw [if_pos]; unfold At.ra; simp
  · unfold At.ra; exact List.pairwise_map.2 (h.asc.imp fun hlt => Int.ofNat_lt.2 hlt)
  · intro v hv
    unfold At.ra at hv
    obtain ⟨x, hx, rfl⟩ := List.mem_map.1 hv
    have := h.lt x hx
    exact ⟨Int.natCast_nonneg _, by show (x : Int) < 32; omega⟩
theorem Gd.small {a : At} (h : Gd a) : Small a.ra where
  ss := h.ss
  len r hr := by have := h.len r hr; unfold At.ra; simp only; omega
  ar := by have := h.vl; unfold At.ra; simp only; omega
  many := h.many
  vl := by have := h.vl; unfold At.ra; simp only [List.length_map]; omega
  I := h.I
def zeroAt : Value := .agg #[.slice none 0 0, .int .i64 0, .slice none 0 0]
theorem two_ats {w : World} {g : Nat} {VA VC PA PC WA WC QA QC} {a b : RA} (hr : Row w g 36 [.slice VA a.vs.length VC, .int .i64 a.ar, .slice PA a.P.length PC, .slice WA b.vs.length WC, .int .i64 b.ar, .slice QA b.P.length QC])
    (c1 : a.vs.length ≤ VC ∧ VC ≤ 9223372036854775807 ∧ a.P.length ≤ PC ∧ PC ≤ 9223372036854775807) (c2 : b.vs.length ≤ WC ∧ WC ≤ 9223372036854775807 ∧ b.P.length ≤ QC ∧ QC ≤ 9223372036854775807)
    (h1 : SlI .i64 w.heap.size w VA a.vs) (h2 : SlRs w.heap.size w PA a.P) (h3 : SlI .i64 w.heap.size w WA b.vs) (h4 : SlRs w.heap.size w QA b.P) : AtsM w.heap.size w (some ⟨g, 0, none⟩) [a, b] := fun _ => by
  refine ⟨g, 0, rfl, hr.lt, fun i hi => ?_⟩
  match i, hi with
  | 0, _ => exact ⟨VA, VC, PA, PC, hr.cell 0, hr.cell 1, hr.cell 2, c1.1, c1.2.1, c1.2.2.1, c1.2.2.2, h1, h2⟩
  | 1, _ => exact ⟨WA, WC, QA, QC, hr.cell 3, hr.cell 4, hr.cell 5, c2.1, c2.2.1, c2.2.2.1, c2.2.2.2, h3, h4⟩
  | n + 2, hi => exact absurd hi (by simp)
def XPost (w : World) (code : Int) (c : At) (e : Ending) (w' : World) : Prop :=
  (code = 0 → ∃ v, e = .returned (.tuple #[v, .int .i64 0]) ∧ AtP (fun c => w.heap.size + 3 ≤ c) w'.heap.size w' v c) ∧ (code ≠ 0 → e = .returned (.tuple #[zeroAt, .int .i64 code])) ∧ Below w.heap.size w w'

set_option maxHeartbeats 16000000 in
theorem sjSemiX_any (va vb : Value) (a b : RA) (w : World) (ha : RaV w va a) (hb : RaV w vb b) (hvl : a.vs.length ≤ 1000000 ∧ b.vs.length ≤ 1000000) (c : At)
    (hcall : ∀ W, Below w.heap.size w W → w.heap.size + 3 ≤ W.heap.size → errC [a, b] = 0 → Calls Tryz.prog 29 #[va, vb] W fun e w' => ∃ v, e = .returned (.tuple #[v, .int .i64 0]) ∧ AtP (fun c => W.heap.size + 3 ≤ c) w'.heap.size w' v c ∧ Below W.heap.size W w') :
    Calls Tryz.prog 9 #[va, vb] w (XPost w (errC [a, b]) c) := by
  obtain ⟨VA, VC, PA, PC, rfl, c1, c2, c3, c4, h1, h2⟩ := ha
  obtain ⟨WA, WC, QA, QC, rfl, d1, d2, d3, d4, h3, h4⟩ := hb
  obtain ⟨W0, hW0⟩ : ∃ W0, W0 = ((w.alloc (.cells #[.slice VA a.vs.length VC, .int .i64 a.ar, .slice PA a.P.length PC] 36)).alloc (.cells #[.slice WA b.vs.length WC, .int .i64 b.ar, .slice QA b.P.length QC] 36)).alloc (.cells #[.slice none 0 0, .int .i64 0, .slice none 0 0] 36) := ⟨_, rfl⟩
  have hx0 : Ext w W0 := by rw [hW0]; exact (((Ext.refl w).alloc _).alloc _).alloc _
  have hra : Row W0 w.heap.size 36 [.slice VA a.vs.length VC, .int .i64 a.ar, .slice PA a.P.length PC] := by rw [hW0]; exact ((Row.new w 36 _).alloc _).alloc _
  have hrb : Row W0 (w.heap.size + 1) 36 [.slice WA b.vs.length WC, .int .i64 b.ar, .slice QA b.P.length QC] := by
    have h := (Row.new (w.alloc (.cells #[.slice VA a.vs.length VC, .int .i64 a.ar, .slice PA a.P.length PC] 36)) 36 [.slice WA b.vs.length WC, .int .i64 b.ar, .slice QA b.P.length QC]).alloc (.cells #[.slice none 0 0, .int .i64 0, .slice none 0 0] 36)
    rw [World.size_alloc] at h
    rw [hW0]; exact h
  have hrr : Row W0 (w.heap.size + 1 + 1) 36 [.slice none 0 0, .int .i64 0, .slice none 0 0] := by
    have h := Row.new ((w.alloc (.cells #[.slice VA a.vs.length VC, .int .i64 a.ar, .slice PA a.P.length PC] 36)).alloc (.cells #[.slice WA b.vs.length WC, .int .i64 b.ar, .slice QA b.P.length QC] 36)) 36 [.slice none 0 0, .int .i64 0, .slice none 0 0]
    rw [World.size_alloc, World.size_alloc] at h
    rw [hW0]; exact h
  obtain ⟨W1, hW1⟩ : ∃ W1, W1 = W0.alloc (.cells #[.slice VA a.vs.length VC, .int .i64 a.ar, .slice PA a.P.length PC, .slice WA b.vs.length WC, .int .i64 b.ar, .slice QA b.P.length QC] 36) := ⟨_, rfl⟩
  have hx1 : Ext W0 W1 := by rw [hW1]; exact (Ext.refl W0).alloc _
  have hr1 : Row W1 W0.heap.size 36 [.slice VA a.vs.length VC, .int .i64 a.ar, .slice PA a.P.length PC, .slice WA b.vs.length WC, .int .i64 b.ar, .slice QA b.P.length QC] := by rw [hW1]; exact Row.new W0 _ _
  have hb1 : Below w.heap.size w W1 := Below.then hx0.below hx1.below hx0.size
  have hck := sjCheck_any (some ⟨W0.heap.size, 0, none⟩) 2 [a, b] W1 (two_ats hr1 ⟨c1, c2, c3, c4⟩ ⟨d1, d2, d3, d4⟩ ((Sl.below h1 hb1 (Nat.le_refl _)).more hb1.size) (h2.upB hb1) ((Sl.below h3 hb1 (Nat.le_refl _)).more hb1.size) (h4.upB hb1)) (by show 2 ≤ _; decide) (fun x hx => by
    rcases List.mem_cons.1 hx with rfl | hx
    · exact hvl.1
    · rw [List.mem_singleton.1 hx]; exact hvl.2)
  have HCK := Lib.hid hck
  have HB1 := Lib.hid hb1
  have HRA := Lib.hid (hra.up hx1.below)
  have HRB := Lib.hid (hrb.up hx1.below)
  have HRR := Lib.hid (hrr.up hx1.below)
  have HCALL := Lib.hid hcall
  have e0 : W0.cell? ⟨w.heap.size, 0, none⟩ = some (.slice VA a.vs.length VC) := hra.cell 0
  have e1 : W0.cell? ⟨w.heap.size, 1, none⟩ = some (.int .i64 a.ar) := hra.cell 1
  have e2 : W0.cell? ⟨w.heap.size, 2, none⟩ = some (.slice PA a.P.length PC) := hra.cell 2
  have e3 : W0.cell? ⟨w.heap.size + 1, 0, none⟩ = some (.slice WA b.vs.length WC) := hrb.cell 0
  have e4 : W0.cell? ⟨w.heap.size + 1, 1, none⟩ = some (.int .i64 b.ar) := hrb.cell 1
  have e5 : W0.cell? ⟨w.heap.size + 1, 2, none⟩ = some (.slice QA b.P.length QC) := hrb.cell 2
  have e6 := hra.lt
  have e7 := hrb.lt
  have HZ : Hid (w.heap.size + 3 ≤ W1.heap.size) := by have := hrr.lt; have := hx1.size; show _ ≤ _; omega
  clear hx0 hra hrb hrr hx1 hr1 hb1 hck hcall h1 h2 h3 h4 c1 c2 c3 c4 d1 d2 d3 d4 hvl
  go_enter Tryz.func9, Tryz.ntmps9
  go_upto_region 1 with (fail)
  rw [← hW0]
  clear hW0
  go_wp2_with fail
  rw [← hW1]
  clear hW1 e0 e1 e2 e3 e4 e5 e6 e7
  refine HCK.out.mono ?_
  rintro e w2 ⟨rfl, hb2⟩
  have HB2 := Lib.hid (Below.then HB1.out hb2 HB1.out.size)
  have HZ2 : Hid (w.heap.size + 3 ≤ w2.heap.size) := Nat.le_trans HZ.out hb2.size
  have ra := HRA.out.up hb2
  have rb := HRB.out.up hb2
  have rr := HRR.out.up hb2
  have HRR2 := Lib.hid rr
  clear hb2 HCK HRA HRB HRR
  generalize hcode : errC [a, b] = code at *
  by_cases h0 : code = 0
  rotate_left
  · have hne : (code != 0) = true := by simpa using h0
    have HN : Hid (code ≠ 0) := h0
    have m3 := rr.frozen 0
    have m4 := rr.frozen 1
    have m5 := rr.frozen 2
    have m6 := rr.lt
    have m0 : w2.cell? ⟨w.heap.size + 1 + 1, 0, none⟩ = some (.slice none 0 0) := rr.cell 0
    have m1 : w2.cell? ⟨w.heap.size + 1 + 1, 1, none⟩ = some (.int .i64 0) := rr.cell 1
    have m2 : w2.cell? ⟨w.heap.size + 1 + 1, 2, none⟩ = some (.slice none 0 0) := rr.cell 2
    clear h0 ra rb rr hcode
    go_wp2_with fail
    obtain ⟨V6, hV6⟩ : ∃ V', V' = ((w2.setCell ⟨w.heap.size + 1 + 1, 0, none⟩ (.slice none 0 0)).setCell ⟨w.heap.size + 1 + 1, 1, none⟩ (.int .i64 0)).setCell ⟨w.heap.size + 1 + 1, 2, none⟩ (.slice none 0 0) := ⟨_, rfl⟩
    rw [← hV6]
    have q : Row V6 (w.heap.size + 1 + 1) 36 [.slice none 0 0, .int .i64 0, .slice none 0 0] := by rw [hV6]; exact ((HRR2.out.set 0 _).set 1 _).set 2 _
    have f0 := q.cell 0
    have f1 := q.cell 1
    have f2 := q.cell 2
    exact bodyPost_ret (v := .tuple #[zeroAt, .int .i64 code]) (by simp [zeroAt, results, Tryz.results9, go_sem, f0, f1, f2]) rfl ⟨fun h => absurd h HN.out, fun _ => rfl, by rw [hV6]; exact ((HB2.out.setCell (by show w.heap.size ≤ w.heap.size + 1 + 1; omega) _).setCell (by show w.heap.size ≤ w.heap.size + 1 + 1; omega) _).setCell (by show w.heap.size ≤ w.heap.size + 1 + 1; omega) _⟩
  subst h0
  have HC2 := Lib.hid (HCALL.out w2 HB2.out HZ2.out rfl)
  have e0 : w2.cell? ⟨w.heap.size, 0, none⟩ = some (.slice VA a.vs.length VC) := ra.cell 0
  have e1 : w2.cell? ⟨w.heap.size, 1, none⟩ = some (.int .i64 a.ar) := ra.cell 1
  have e2 : w2.cell? ⟨w.heap.size, 2, none⟩ = some (.slice PA a.P.length PC) := ra.cell 2
  have e3 : w2.cell? ⟨w.heap.size + 1, 0, none⟩ = some (.slice WA b.vs.length WC) := rb.cell 0
  have e4 : w2.cell? ⟨w.heap.size + 1, 1, none⟩ = some (.int .i64 b.ar) := rb.cell 1
  have e5 : w2.cell? ⟨w.heap.size + 1, 2, none⟩ = some (.slice QA b.P.length QC) := rb.cell 2
  have e6 := ra.lt
  have e7 := rb.lt
  clear ra rb rr HCALL hcode
  go_wp2_with fail
  refine HC2.out.mono ?_
  rintro e w3 ⟨v, rfl, hat, hb3⟩
  obtain ⟨RA, RC, SA, SC, rfl, k1, k2, k3, k4, hk⟩ := hat
  have q3 := HRR2.out.up hb3
  have m3 := q3.frozen 0
  have m4 := q3.frozen 1
  have m5 := q3.frozen 2
  have m6 := q3.lt
  have m0 : w3.cell? ⟨w.heap.size + 1 + 1, 0, none⟩ = some (.slice none 0 0) := q3.cell 0
  have m1 : w3.cell? ⟨w.heap.size + 1 + 1, 1, none⟩ = some (.int .i64 0) := q3.cell 1
  have m2 : w3.cell? ⟨w.heap.size + 1 + 1, 2, none⟩ = some (.slice none 0 0) := q3.cell 2
  have HQ := Lib.hid q3
  have HK := Lib.hid hk
  have HKK := Lib.hid (And.intro (And.intro k1 k2) (And.intro k3 k4))
  have HB3 := Lib.hid (Below.then HB2.out hb3 HB2.out.size)
  clear q3 hk k1 k2 k3 k4 hb3 HC2
  go_wp2_with fail
  obtain ⟨V6, hV6⟩ : ∃ V', V' = ((w3.setCell ⟨w.heap.size + 1 + 1, 0, none⟩ (.slice RA c.vs.length RC)).setCell ⟨w.heap.size + 1 + 1, 1, none⟩ (.int .i64 (c.vs.length : Nat))).setCell ⟨w.heap.size + 1 + 1, 2, none⟩ (.slice SA c.P.length SC) := ⟨_, rfl⟩
  rw [← hV6]
  have q : Row V6 (w.heap.size + 1 + 1) 36 [.slice RA c.vs.length RC, .int .i64 (c.vs.length : Nat), .slice SA c.P.length SC] := by rw [hV6]; exact ((HQ.out.set 0 _).set 1 _).set 2 _
  have f0 := q.cell 0
  have f1 := q.cell 1
  have f2 := q.cell 2
  have hcell : ∀ p : Addr, p.block ≠ w.heap.size + 1 + 1 → V6.cell? p = w3.cell? p := fun p hp => by
    rw [hV6, World.cell?_setCell_other _ _ _ _ (fun e => hp (by rw [← e])), World.cell?_setCell_other _ _ _ _ (fun e => hp (by rw [← e])), World.cell?_setCell_other _ _ _ _ (fun e => hp (by rw [← e]))]
  have hsz : V6.heap.size = w3.heap.size := by rw [hV6]; simp
  refine bodyPost_ret (v := .tuple #[.agg #[.slice RA c.vs.length RC, .int .i64 (c.vs.length : Nat), .slice SA c.P.length SC], .int .i64 0]) (by simp [results, Tryz.results9, go_sem, f0, f1, f2]) rfl ⟨fun _ => ⟨_, rfl, RA, RC, SA, SC, rfl, HKK.out.1.1, HKK.out.1.2, HKK.out.2.1, HKK.out.2.2, fun W hag => ?_⟩, fun h => absurd rfl h, ?_⟩
  · rw [hsz]
    refine HK.out W fun p h1 h2 => ?_
    have := HZ2.out
    rw [hag p (by rw [hsz]; exact h1) (by omega)]
    exact hcell p (by omega)
  · rw [hV6]
    exact ((HB3.out.setCell (by show w.heap.size ≤ w.heap.size + 1 + 1; omega) _).setCell (by show w.heap.size ≤ w.heap.size + 1 + 1; omega) _).setCell (by show w.heap.size ≤ w.heap.size + 1 + 1; omega) _
set_option maxHeartbeats 16000000 in
theorem sjJoinX_any (va vb : Value) (a b : RA) (w : World) (ha : RaV w va a) (hb : RaV w vb b) (hvl : a.vs.length ≤ 1000000 ∧ b.vs.length ≤ 1000000) (c : At)
    (hcall : ∀ W, Below w.heap.size w W → w.heap.size + 3 ≤ W.heap.size → errC [a, b] = 0 → Calls Tryz.prog 30 #[va, vb] W fun e w' => ∃ v, e = .returned (.tuple #[v, .int .i64 0]) ∧ AtP (fun c => W.heap.size + 3 ≤ c) w'.heap.size w' v c ∧ Below W.heap.size W w') :
    Calls Tryz.prog 10 #[va, vb] w (XPost w (errC [a, b]) c) := by
  obtain ⟨VA, VC, PA, PC, rfl, c1, c2, c3, c4, h1, h2⟩ := ha
  obtain ⟨WA, WC, QA, QC, rfl, d1, d2, d3, d4, h3, h4⟩ := hb
  obtain ⟨W0, hW0⟩ : ∃ W0, W0 = ((w.alloc (.cells #[.slice VA a.vs.length VC, .int .i64 a.ar, .slice PA a.P.length PC] 36)).alloc (.cells #[.slice WA b.vs.length WC, .int .i64 b.ar, .slice QA b.P.length QC] 36)).alloc (.cells #[.slice none 0 0, .int .i64 0, .slice none 0 0] 36) := ⟨_, rfl⟩
  have hx0 : Ext w W0 := by rw [hW0]; exact (((Ext.refl w).alloc _).alloc _).alloc _
  have hra : Row W0 w.heap.size 36 [.slice VA a.vs.length VC, .int .i64 a.ar, .slice PA a.P.length PC] := by rw [hW0]; exact ((Row.new w 36 _).alloc _).alloc _
  have hrb : Row W0 (w.heap.size + 1) 36 [.slice WA b.vs.length WC, .int .i64 b.ar, .slice QA b.P.length QC] := by
    have h := (Row.new (w.alloc (.cells #[.slice VA a.vs.length VC, .int .i64 a.ar, .slice PA a.P.length PC] 36)) 36 [.slice WA b.vs.length WC, .int .i64 b.ar, .slice QA b.P.length QC]).alloc (.cells #[.slice none 0 0, .int .i64 0, .slice none 0 0] 36)
    rw [World.size_alloc] at h
    rw [hW0]; exact h
  have hrr : Row W0 (w.heap.size + 1 + 1) 36 [.slice none 0 0, .int .i64 0, .slice none 0 0] := by
    have h := Row.new ((w.alloc (.cells #[.slice VA a.vs.length VC, .int .i64 a.ar, .slice PA a.P.length PC] 36)).alloc (.cells #[.slice WA b.vs.length WC, .int .i64 b.ar, .slice QA b.P.length QC] 36)) 36 [.slice none 0 0, .int .i64 0, .slice none 0 0]
    rw [World.size_alloc, World.size_alloc] at h
    rw [hW0]; exact h
  obtain ⟨W1, hW1⟩ : ∃ W1, W1 = W0.alloc (.cells #[.slice VA a.vs.length VC, .int .i64 a.ar, .slice PA a.P.length PC, .slice WA b.vs.length WC, .int .i64 b.ar, .slice QA b.P.length QC] 36) := ⟨_, rfl⟩
  have hx1 : Ext W0 W1 := by rw [hW1]; exact (Ext.refl W0).alloc _
  have hr1 : Row W1 W0.heap.size 36 [.slice VA a.vs.length VC, .int .i64 a.ar, .slice PA a.P.length PC, .slice WA b.vs.length WC, .int .i64 b.ar, .slice QA b.P.length QC] := by rw [hW1]; exact Row.new W0 _ _
  have hb1 : Below w.heap.size w W1 := Below.then hx0.below hx1.below hx0.size
  have hck := sjCheck_any (some ⟨W0.heap.size, 0, none⟩) 2 [a, b] W1 (two_ats hr1 ⟨c1, c2, c3, c4⟩ ⟨d1, d2, d3, d4⟩ ((Sl.below h1 hb1 (Nat.le_refl _)).more hb1.size) (h2.upB hb1) ((Sl.below h3 hb1 (Nat.le_refl _)).more hb1.size) (h4.upB hb1)) (by show 2 ≤ _; decide) (fun x hx => by
    rcases List.mem_cons.1 hx with rfl | hx
    · exact hvl.1
    · rw [List.mem_singleton.1 hx]; exact hvl.2)
  have HCK := Lib.hid hck
  have HB1 := Lib.hid hb1
  have HRA := Lib.hid (hra.up hx1.below)
  have HRB := Lib.hid (hrb.up hx1.below)
  have HRR := Lib.hid (hrr.up hx1.below)
  have HCALL := Lib.hid hcall
  have e0 : W0.cell? ⟨w.heap.size, 0, none⟩ = some (.slice VA a.vs.length VC) := hra.cell 0
  have e1 : W0.cell? ⟨w.heap.size, 1, none⟩ = some (.int .i64 a.ar) := hra.cell 1
  have e2 : W0.cell? ⟨w.heap.size, 2, none⟩ = some (.slice PA a.P.length PC) := hra.cell 2
  have e3 : W0.cell? ⟨w.heap.size + 1, 0, none⟩ = some (.slice WA b.vs.length WC) := hrb.cell 0
  have e4 : W0.cell? ⟨w.heap.size + 1, 1, none⟩ = some (.int .i64 b.ar) := hrb.cell 1
  have e5 : W0.cell? ⟨w.heap.size + 1, 2, none⟩ = some (.slice QA b.P.length QC) := hrb.cell 2
  have e6 := hra.lt
  have e7 := hrb.lt
  have HZ : Hid (w.heap.size + 3 ≤ W1.heap.size) := by have := hrr.lt; have := hx1.size; show _ ≤ _; omega
  clear hx0 hra hrb hrr hx1 hr1 hb1 hck hcall h1 h2 h3 h4 c1 c2 c3 c4 d1 d2 d3 d4 hvl
  go_enter Tryz.func10, Tryz.ntmps10
  go_upto_region 1 with (fail)
  rw [← hW0]
  clear hW0
  go_wp2_with fail
  rw [← hW1]
  clear hW1 e0 e1 e2 e3 e4 e5 e6 e7
  refine HCK.out.mono ?_
  rintro e w2 ⟨rfl, hb2⟩
  have HB2 := Lib.hid (Below.then HB1.out hb2 HB1.out.size)
  have HZ2 : Hid (w.heap.size + 3 ≤ w2.heap.size) := Nat.le_trans HZ.out hb2.size
  have ra := HRA.out.up hb2
  have rb := HRB.out.up hb2
  have rr := HRR.out.up hb2
  have HRR2 := Lib.hid rr
  clear hb2 HCK HRA HRB HRR
  generalize hcode : errC [a, b] = code at *
  by_cases h0 : code = 0
  rotate_left
  · have hne : (code != 0) = true := by simpa using h0
    have HN : Hid (code ≠ 0) := h0
    have m3 := rr.frozen 0
    have m4 := rr.frozen 1
    have m5 := rr.frozen 2
    have m6 := rr.lt
    have m0 : w2.cell? ⟨w.heap.size + 1 + 1, 0, none⟩ = some (.slice none 0 0) := rr.cell 0
    have m1 : w2.cell? ⟨w.heap.size + 1 + 1, 1, none⟩ = some (.int .i64 0) := rr.cell 1
    have m2 : w2.cell? ⟨w.heap.size + 1 + 1, 2, none⟩ = some (.slice none 0 0) := rr.cell 2
    clear h0 ra rb rr hcode
    go_wp2_with fail
    obtain ⟨V6, hV6⟩ : ∃ V', V' = ((w2.setCell ⟨w.heap.size + 1 + 1, 0, none⟩ (.slice none 0 0)).setCell ⟨w.heap.size + 1 + 1, 1, none⟩ (.int .i64 0)).setCell ⟨w.heap.size + 1 + 1, 2, none⟩ (.slice none 0 0) := ⟨_, rfl⟩
    rw [← hV6]
    have q : Row V6 (w.heap.size + 1 + 1) 36 [.slice none 0 0, .int .i64 0, .slice none 0 0] := by rw [hV6]; exact ((HRR2.out.set 0 _).set 1 _).set 2 _
    have f0 := q.cell 0
    have f1 := q.cell 1
    have f2 := q.cell 2
    exact bodyPost_ret (v := .tuple #[zeroAt, .int .i64 code]) (by simp [zeroAt, results, Tryz.results10, go_sem, f0, f1, f2]) rfl ⟨fun h => absurd h HN.out, fun _ => rfl, by rw [hV6]; exact ((HB2.out.setCell (by show w.heap.size ≤ w.heap.size + 1 + 1; omega) _).setCell (by show w.heap.size ≤ w.heap.size + 1 + 1; omega) _).setCell (by show w.heap.size ≤ w.heap.size + 1 + 1; omega) _⟩
  subst h0
  have HC2 := Lib.hid (HCALL.out w2 HB2.out HZ2.out rfl)
  have e0 : w2.cell? ⟨w.heap.size, 0, none⟩ = some (.slice VA a.vs.length VC) := ra.cell 0
  have e1 : w2.cell? ⟨w.heap.size, 1, none⟩ = some (.int .i64 a.ar) := ra.cell 1
  have e2 : w2.cell? ⟨w.heap.size, 2, none⟩ = some (.slice PA a.P.length PC) := ra.cell 2
  have e3 : w2.cell? ⟨w.heap.size + 1, 0, none⟩ = some (.slice WA b.vs.length WC) := rb.cell 0
  have e4 : w2.cell? ⟨w.heap.size + 1, 1, none⟩ = some (.int .i64 b.ar) := rb.cell 1
  have e5 : w2.cell? ⟨w.heap.size + 1, 2, none⟩ = some (.slice QA b.P.length QC) := rb.cell 2
  have e6 := ra.lt
  have e7 := rb.lt
  clear ra rb rr HCALL hcode
  go_wp2_with fail
  refine HC2.out.mono ?_
  rintro e w3 ⟨v, rfl, hat, hb3⟩
  obtain ⟨RA, RC, SA, SC, rfl, k1, k2, k3, k4, hk⟩ := hat
  have q3 := HRR2.out.up hb3
  have m3 := q3.frozen 0
  have m4 := q3.frozen 1
  have m5 := q3.frozen 2
  have m6 := q3.lt
  have m0 : w3.cell? ⟨w.heap.size + 1 + 1, 0, none⟩ = some (.slice none 0 0) := q3.cell 0
  have m1 : w3.cell? ⟨w.heap.size + 1 + 1, 1, none⟩ = some (.int .i64 0) := q3.cell 1
  have m2 : w3.cell? ⟨w.heap.size + 1 + 1, 2, none⟩ = some (.slice none 0 0) := q3.cell 2
  have HQ := Lib.hid q3
  have HK := Lib.hid hk
  have HKK := Lib.hid (And.intro (And.intro k1 k2) (And.intro k3 k4))
  have HB3 := Lib.hid (Below.then HB2.out hb3 HB2.out.size)
  clear q3 hk k1 k2 k3 k4 hb3 HC2
  go_wp2_with fail
  obtain ⟨V6, hV6⟩ : ∃ V', V' = ((w3.setCell ⟨w.heap.size + 1 + 1, 0, none⟩ (.slice RA c.vs.length RC)).setCell ⟨w.heap.size + 1 + 1, 1, none⟩ (.int .i64 (c.vs.length : Nat))).setCell ⟨w.heap.size + 1 + 1, 2, none⟩ (.slice SA c.P.length SC) := ⟨_, rfl⟩
  rw [← hV6]
  have q : Row V6 (w.heap.size + 1 + 1) 36 [.slice RA c.vs.length RC, .int .i64 (c.vs.length : Nat), .slice SA c.P.length SC] := by rw [hV6]; exact ((HQ.out.set 0 _).set 1 _).set 2 _
  have f0 := q.cell 0
  have f1 := q.cell 1
  have f2 := q.cell 2
  have hcell : ∀ p : Addr, p.block ≠ w.heap.size + 1 + 1 → V6.cell? p = w3.cell? p := fun p hp => by
    rw [hV6, World.cell?_setCell_other _ _ _ _ (fun e => hp (by rw [← e])), World.cell?_setCell_other _ _ _ _ (fun e => hp (by rw [← e])), World.cell?_setCell_other _ _ _ _ (fun e => hp (by rw [← e]))]
  have hsz : V6.heap.size = w3.heap.size := by rw [hV6]; simp
  refine bodyPost_ret (v := .tuple #[.agg #[.slice RA c.vs.length RC, .int .i64 (c.vs.length : Nat), .slice SA c.P.length SC], .int .i64 0]) (by simp [results, Tryz.results10, go_sem, f0, f1, f2]) rfl ⟨fun _ => ⟨_, rfl, RA, RC, SA, SC, rfl, HKK.out.1.1, HKK.out.1.2, HKK.out.2.1, HKK.out.2.2, fun W hag => ?_⟩, fun h => absurd rfl h, ?_⟩
  · rw [hsz]
    refine HK.out W fun p h1 h2 => ?_
    have := HZ2.out
    rw [hag p (by rw [hsz]; exact h1) (by omega)]
    exact hcell p (by omega)
  · rw [hV6]
    exact ((HB3.out.setCell (by show w.heap.size ≤ w.heap.size + 1 + 1; omega) _).setCell (by show w.heap.size ≤ w.heap.size + 1 + 1; omega) _).setCell (by show w.heap.size ≤ w.heap.size + 1 + 1; omega) _
end
end Go.Proofs.YthgaflmldbgbnaaGreatDoor
section
namespace Go.Proofs.YthgaflmldbgbnaaGreatDoor.JT

theorem nodup_le {l m : List Nat} (hl : l.Nodup) (h : ∀ x ∈ l, x ∈ m) : l.length ≤ m.length := by
  induction l generalizing m with
  | nil => simp
  | cons a l ih =>
    have ha : a ∈ m := h a (by simp)
    rw [List.nodup_cons] at hl
    have h2 : l.length ≤ (m.erase a).length := ih hl.2 fun x hx => by
      have hne : x ≠ a := fun e => hl.1 (e ▸ hx)
      exact (List.mem_erase_of_ne hne).2 (h x (by simp [hx]))
    rw [List.length_erase_of_mem ha] at h2
    have : 0 < m.length := List.length_pos_of_mem ha
    simp; omega

theorem nodup_ne {l : List Nat} (h : l.Nodup) {i j : Nat} (hij : i < j) (hj : j < l.length) : l[i]? ≠ l[j]? := by
  unfold List.Nodup at h
  rw [List.pairwise_iff_getElem] at h
  rw [List.getElem?_eq_getElem hj, List.getElem?_eq_getElem (by omega)]
  intro e
  exact h i j (by omega) hj hij (by injection e)
theorem nodup_of {l : List Nat} (h : ∀ i j, i < j → j < l.length → l[i]? ≠ l[j]?) : l.Nodup := by
  unfold List.Nodup
  rw [List.pairwise_iff_getElem]
  intro i j hi hj hij e
  apply h i j hij hj
  rw [List.getElem?_eq_getElem hj, List.getElem?_eq_getElem hi, e]

def par (ps : List Int) (k : Nat) : Int := ps[k]?.getD (-1)

def ready (ps : List Int) (D : List Nat) (v : Nat) : Prop := v < ps.length ∧ v ∉ D ∧ ∀ k, k < ps.length → par ps k = (v : Int) → k ∈ D
def readyB (ps : List Int) (D : List Nat) (v : Nat) : Bool := decide (v < ps.length) && !(D.contains v) && (List.range ps.length).all fun k => !(par ps k == (v : Int)) || D.contains k
theorem readyB_iff {ps : List Int} {D : List Nat} {v : Nat} : readyB ps D v = true ↔ ready ps D v := by
  unfold readyB ready
  simp only [Bool.and_eq_true, decide_eq_true_eq, Bool.not_eq_true', List.all_eq_true, List.mem_range, Bool.or_eq_true, and_assoc]
  constructor
  · rintro ⟨h1, h2, h3⟩
    refine ⟨h1, by simpa using h2, fun k hk hp => ?_⟩
    rcases h3 k hk with h | h
    · simp at h; exact absurd hp h
    · simpa using h
  · rintro ⟨h1, h2, h3⟩
    refine ⟨h1, by simpa using h2, fun k hk => ?_⟩
    by_cases hp : par ps k = (v : Int)
    · exact .inr (by simpa using h3 k hk hp)
    · exact .inl (by simpa using hp)

def cntF (ps : List Int) (D : List Nat) (u : Nat) : Nat := (List.range ps.length).countP fun k => (par ps k == (u : Int)) && !(D.contains k)

theorem cnt_zero {ps : List Int} {D : List Nat} {u : Nat} : cntF ps D u = 0 ↔ ∀ k, k < ps.length → par ps k = (u : Int) → k ∈ D := by
  unfold cntF
  rw [List.countP_eq_zero]
  simp only [List.mem_range, Bool.and_eq_true, Bool.not_eq_true', not_and, Bool.not_eq_false]
  constructor
  · intro h k hk hp
    have := h k hk (by simpa using hp)
    simpa using this
  · intro h k hk hp
    simpa using h k hk (by simpa using hp)

theorem countP_one_less (l : List Nat) (hl : l.Nodup) (p q : Nat → Bool) (v : Nat) (hv : v ∈ l) (hp : p v = true) (hq : q v = false) (hpq : ∀ x ∈ l, x ≠ v → p x = q x) : l.countP q + 1 = l.countP p := by
  induction l with
  | nil => simp at hv
  | cons a l ih =>
    rw [List.nodup_cons] at hl
    by_cases ha : a = v
    · subst ha
      have : l.countP q = l.countP p := List.countP_congr fun x hx => by
        rw [hpq x (by simp [hx]) (fun e => hl.1 (e ▸ hx))]
      simp [hp, hq, this]
    · have hv' : v ∈ l := by simp at hv; rcases hv with h | h; exact absurd h.symm ha; exact h
      have := ih hl.2 hv' fun x hx hne => hpq x (by simp [hx]) hne
      simp only [List.countP_cons, hpq a (by simp) ha]
      omega

theorem cnt_emit {ps : List Int} {D : List Nat} {v u : Nat} (hv : v < ps.length) (hn : v ∉ D) : cntF ps D u = cntF ps (D ++ [v]) u + (if par ps v = (u : Int) then 1 else 0) := by
  by_cases hp : par ps v = (u : Int)
  · rw [if_pos hp]
    unfold cntF
    symm
    apply countP_one_less _ List.nodup_range _ _ v (List.mem_range.2 hv)
    · simp [hp, hn]
    · simp
    · intro x _ hne
      simp [hne]
  · rw [if_neg hp]
    unfold cntF
    rw [Nat.add_zero]
    apply List.countP_congr
    intro x _
    by_cases hx : x = v
    · subst hx; simp [hp]
    · simp [hx]

def Greedy (ps : List Int) (D : List Nat) : Prop := ∀ i v, D[i]? = some v → ready ps (D.take i) v ∧ ∀ u, u < v → ¬ ready ps (D.take i) u

theorem Greedy.nil (ps : List Int) : Greedy ps [] := fun i v h => by simp at h

theorem Greedy.snoc {ps : List Int} {D : List Nat} {v : Nat} (h : Greedy ps D) (hr : ready ps D v) (hm : ∀ u, u < v → ¬ ready ps D u) : Greedy ps (D ++ [v]) := by
  intro i x hx
  by_cases hi : i < D.length
  · rw [List.getElem?_append_left hi] at hx
    rw [List.take_append_of_le_length (by omega)]
    exact h i x hx
  · have : i = D.length := by
      have := (List.getElem?_eq_some_iff.1 hx).1
      simp at this; omega
    subst this
    simp at hx
    subst hx
    simpa using ⟨hr, hm⟩

theorem Greedy.lt {ps : List Int} {D : List Nat} (h : Greedy ps D) {v : Nat} (hv : v ∈ D) : v < ps.length := by
  obtain ⟨i, hi, rfl⟩ := List.getElem_of_mem hv
  exact (h i _ (List.getElem?_eq_getElem hi)).1.1

theorem Greedy.nodup {ps : List Int} {D : List Nat} (h : Greedy ps D) : D.Nodup := by
  apply nodup_of
  intro i j hij hj hc
  have h2 := (h j _ (List.getElem?_eq_getElem hj)).1.2.1
  apply h2
  rw [List.getElem?_eq_getElem hj] at hc
  rw [List.mem_take_iff_getElem]
  obtain ⟨hi, hi2⟩ := List.getElem?_eq_some_iff.1 hc
  exact ⟨i, by omega, hi2⟩

theorem Greedy.length {ps : List Int} {D : List Nat} (h : Greedy ps D) : D.length ≤ ps.length := by
  have := nodup_le (m := List.range ps.length) h.nodup fun x hx => List.mem_range.2 (h.lt hx)
  simpa using this

theorem Greedy.after {ps : List Int} {D : List Nat} (h : Greedy ps D) {v p : Nat} (hv : v < ps.length) (hp : par ps v = (p : Int)) {j : Nat} (hj : D[j]? = some p) : v ∈ D.take j :=
  (h j p hj).1.2.2 v hv hp

theorem Greedy.parent_out {ps : List Int} {D : List Nat} {v p : Nat} (h : Greedy ps (D ++ [v])) (hp : par ps v = (p : Int)) : p ∉ D ++ [v] := by
  intro hm
  obtain ⟨j, hj, hjp⟩ := List.getElem_of_mem hm
  have hjs : (D ++ [v])[j]? = some p := by rw [List.getElem?_eq_getElem hj, hjp]
  have hv : v < ps.length := h.lt (by simp)
  have hin := h.after hv hp hjs
  have hnd := h.nodup
  rw [List.nodup_append] at hnd
  have : v ∈ D := by
    rw [List.take_append_of_le_length (by simp at hj; omega)] at hin
    exact List.mem_of_mem_take hin
  exact hnd.2.2 v this v (by simp) rfl

theorem ready_emit {ps : List Int} {D : List Nat} {v u : Nat} (h : ready ps (D ++ [v]) u) : ready ps D u ∨ par ps v = (u : Int) := by
  by_cases hp : par ps v = (u : Int)
  · exact .inr hp
  · refine .inl ⟨h.1, fun hu => h.2.1 (by simp [hu]), fun k hk hkp => ?_⟩
    have := h.2.2 k hk hkp
    simp at this
    rcases this with h1 | h1
    · exact h1
    · subst h1; exact absurd hkp hp

def IsOrder (ps : List Int) (D : List Nat) : Prop := Greedy ps D ∧ ∀ u, ¬ ready ps D u

def nextF (ps : List Int) (D : List Nat) : Option Nat := (List.range ps.length).find? (readyB ps D)
def orderGo (ps : List Int) : Nat → List Nat → List Nat
  | 0, D => D
  | f + 1, D => match nextF ps D with | none => D | some v => orderGo ps f (D ++ [v])
def orderF (ps : List Int) : List Nat := orderGo ps ps.length []

theorem nextF_none {ps : List Int} {D : List Nat} (h : ∀ u, ¬ ready ps D u) : nextF ps D = none := by
  unfold nextF
  rw [List.find?_eq_none]
  intro x _ hx
  exact h x (readyB_iff.1 hx)

theorem nextF_some {ps : List Int} {D : List Nat} {v : Nat} (h : ready ps D v) (hm : ∀ u, u < v → ¬ ready ps D u) : nextF ps D = some v := by
  unfold nextF
  rw [List.find?_range_eq_some]
  exact ⟨readyB_iff.2 h, List.mem_range.2 h.1, fun j hj => by
    have := hm j hj
    rw [← readyB_iff] at this
    simpa using this⟩

theorem nextF_of {ps : List Int} {D : List Nat} {v : Nat} (h : nextF ps D = some v) : ready ps D v ∧ ∀ u, u < v → ¬ ready ps D u := by
  unfold nextF at h
  rw [List.find?_range_eq_some] at h
  refine ⟨readyB_iff.1 h.1, fun u hu hr => ?_⟩
  have := h.2.2 u hu
  rw [readyB_iff.2 hr] at this
  simp at this

theorem orderGo_of {ps : List Int} {D : List Nat} (h : IsOrder ps D) : ∀ f j, j ≤ D.length → D.length - j ≤ f → orderGo ps f (D.take j) = D := by
  intro f
  induction f with
  | zero => intro j h1 h2; rw [List.take_of_length_le (by omega)]; rfl
  | succ f ih =>
    intro j h1 h2
    by_cases hj : j < D.length
    · have h3 := h.1 j D[j] (List.getElem?_eq_getElem hj)
      rw [orderGo, nextF_some h3.1 h3.2]
      show orderGo ps f (D.take j ++ [D[j]]) = D
      rw [← List.take_succ_eq_append_getElem hj]
      exact ih (j + 1) hj (by omega)
    · rw [List.take_of_length_le (by omega), orderGo, nextF_none h.2]

theorem order_unique {ps : List Int} {D : List Nat} (h : IsOrder ps D) : D = orderF ps := by
  have := orderGo_of h ps.length 0 (by omega) (by have := h.1.length; omega)
  simpa [orderF] using this.symm

theorem orderGo_is {ps : List Int} : ∀ f D, Greedy ps D → ps.length - D.length ≤ f → IsOrder ps (orderGo ps f D) := by
  intro f
  induction f with
  | zero =>
    intro D hD hf
    refine ⟨hD, fun u hu => ?_⟩
    have h1 : (u :: D).Nodup := List.nodup_cons.2 ⟨hu.2.1, hD.nodup⟩
    have h2 := nodup_le (m := List.range ps.length) h1 fun x hx => by
      simp at hx; rcases hx with rfl | hx
      · exact List.mem_range.2 hu.1
      · exact List.mem_range.2 (hD.lt hx)
    simp at h2; omega
  | succ f ih =>
    intro D hD hf
    unfold orderGo
    cases hn : nextF ps D with
    | none =>
      refine ⟨hD, fun u hu => ?_⟩
      unfold nextF at hn
      rw [List.find?_eq_none] at hn
      exact hn u (List.mem_range.2 hu.1) (readyB_iff.2 hu)
    | some v =>
      obtain ⟨h1, h2⟩ := nextF_of hn
      exact ih _ (hD.snoc h1 h2) (by simp; omega)

theorem orderF_is (ps : List Int) : IsOrder ps (orderF ps) := orderGo_is _ _ (Greedy.nil ps) (by simp)

/-! ### The order is whole just where every node leads to a root -/

theorem up_neg {ps : List Int} {v : Int} (h : v < 0) : ∀ k, up ps k v = v
  | 0 => rfl
  | k + 1 => by rw [up, if_pos h]

theorem up_succ {ps : List Int} {v : Nat} (hv : v < ps.length) (k : Nat) : up ps (k + 1) (v : Int) = up ps k (par ps v) := by
  rw [up, if_neg (by omega)]
  simp [par, hv]

theorem whole_up {ps : List Int} {D : List Nat} (h : Greedy ps D) (hv : ∀ p ∈ ps, -1 ≤ p ∧ p < ps.length) (hall : ∀ u, u < ps.length → u ∈ D) :
    ∀ k i v : Nat, D[i]? = some v → up ps k (v : Int) < 0 ∨ ∃ j x : Nat, D[j]? = some x ∧ up ps k (v : Int) = (x : Int) ∧ i + k ≤ j := by
  intro k
  induction k with
  | zero => intro i v hi; exact .inr ⟨i, v, hi, rfl, by omega⟩
  | succ k ih =>
    intro i v hi
    have hvl : v < ps.length := (h i v hi).1.1
    rw [up_succ hvl]
    have hpar : par ps v = ps[v] := by simp [par, hvl]
    have hb := hv ps[v] (List.getElem_mem hvl)
    by_cases hp : par ps v < 0
    · exact .inl (by rw [up_neg hp]; exact hp)
    · obtain ⟨p, hpp⟩ := Int.eq_ofNat_of_zero_le (show 0 ≤ par ps v by omega)
      have hpin : p ∈ D := hall p (by omega)
      obtain ⟨j, hj, hjp⟩ := List.getElem_of_mem hpin
      have hjs : D[j]? = some p := by rw [List.getElem?_eq_getElem hj, hjp]
      have hin := h.after hvl hpp hjs
      have hij : i < j := by
        rw [List.mem_take_iff_getElem] at hin
        obtain ⟨i', hi', he⟩ := hin
        have hii : i' = i := by
          have hnd := h.nodup
          have hil := (List.getElem?_eq_some_iff.1 hi).1
          have h1 : D[i']? = D[i]? := by rw [List.getElem?_eq_getElem (by omega), he, hi]
          rcases Nat.lt_trichotomy i' i with hlt | heq | hgt
          · exact absurd h1 (nodup_ne hnd hlt hil)
          · exact heq
          · exact absurd h1.symm (nodup_ne hnd hgt (by omega))
        omega
      rw [hpp]
      rcases ih j p hjs with h1 | ⟨j', x, h1, h2, h3⟩
      · exact .inl h1
      · exact .inr ⟨j', x, h1, h2, by omega⟩

theorem order_whole {ps : List Int} (hv : ∀ p ∈ ps, -1 ≤ p ∧ p < ps.length) : (orderF ps).length = ps.length ↔ ∀ i, i < ps.length → up ps ps.length (i : Int) < 0 := by
  have hO := orderF_is ps
  generalize orderF ps = D at *
  constructor
  · intro hl i hi
    have hall : ∀ u, u < ps.length → u ∈ D := by
      intro u hu
      refine Classical.byContradiction fun hn => ?_
      have h1 : (u :: D).Nodup := List.nodup_cons.2 ⟨hn, hO.1.nodup⟩
      have h2 := nodup_le (m := List.range ps.length) h1 fun x hx => by
        simp at hx; rcases hx with rfl | hx
        · exact List.mem_range.2 hu
        · exact List.mem_range.2 (hO.1.lt hx)
      simp at h2; omega
    obtain ⟨j, hj, hji⟩ := List.getElem_of_mem (hall i hi)
    rcases whole_up hO.1 hv hall ps.length j i (by rw [List.getElem?_eq_getElem hj, hji]) with h1 | ⟨j', x, h1, _, h3⟩
    · exact h1
    · have := (List.getElem?_eq_some_iff.1 h1).1
      omega
  · intro hall
    have hle := hO.1.length
    refine Classical.byContradiction fun hne => ?_
    have hex : ∃ u, u < ps.length ∧ u ∉ D := by
      refine Classical.byContradiction fun hn => ?_
      have h2 := nodup_le (l := List.range ps.length) (m := D) List.nodup_range fun x hx => by
        refine Classical.byContradiction fun hx2 => hn ⟨x, List.mem_range.1 hx, hx2⟩
      simp at h2; omega
    obtain ⟨u, hu, hun⟩ := hex
    have hch : ∀ k, ∃ x, x < ps.length ∧ x ∉ D ∧ up ps k (x : Int) = (u : Int) := by
      intro k
      induction k with
      | zero => exact ⟨u, hu, hun, rfl⟩
      | succ k ih =>
        obtain ⟨x, hx, hxn, hxu⟩ := ih
        have hnr := hO.2 x
        have : ∃ y, y < ps.length ∧ par ps y = (x : Int) ∧ y ∉ D := by
          refine Classical.byContradiction fun hn => hnr ⟨hx, hxn, fun y hy hyp => ?_⟩
          refine Classical.byContradiction fun hyn => hn ⟨y, hy, hyp, hyn⟩
        obtain ⟨y, hy, hyp, hyn⟩ := this
        exact ⟨y, hy, hyn, by rw [up_succ hy, hyp, hxu]⟩
    obtain ⟨x, hx, _, hxu⟩ := hch ps.length
    have := hall x hx
    omega

theorem rootedB_of {ps : List Int} (hv : ∀ p ∈ ps, -1 ≤ p ∧ p < ps.length) : rootedB ps = ((rootsF ps == 1) && decide ((orderF ps).length = ps.length)) := by
  have h1 : validB ps = true := by
    unfold validB
    simp only [List.all_eq_true, Bool.and_eq_true, decide_eq_true_eq]
    exact hv
  unfold rootedB
  rw [h1, Bool.true_and]
  congr 1
  rw [Bool.eq_iff_iff, decide_eq_true_eq, order_whole hv]
  simp [List.all_eq_true]

theorem rootedB_bad {ps : List Int} (h : ¬ ∀ p ∈ ps, -1 ≤ p ∧ p < ps.length) : rootedB ps = false := by
  have h1 : validB ps = false := by
    rw [Bool.eq_false_iff]
    intro h2
    unfold validB at h2
    simp only [List.all_eq_true, Bool.and_eq_true, decide_eq_true_eq] at h2
    exact h h2
  simp [rootedB, h1]

theorem up_self {ps : List Int} {i : Nat} (hi : i < ps.length) (h : ps[i] = (i : Int)) : ∀ k, up ps k (i : Int) = (i : Int)
  | 0 => rfl
  | k + 1 => by
    rw [up_succ hi, show par ps i = (i : Int) by simp [par, hi, h]]
    exact up_self hi h k

theorem rootedB_self {ps : List Int} {i : Nat} (hi : i < ps.length) (h : ps[i] = (i : Int)) : rootedB ps = false := by
  rw [Bool.eq_false_iff]
  intro h2
  unfold rootedB at h2
  simp only [Bool.and_eq_true, List.all_eq_true, List.mem_range, decide_eq_true_eq] at h2
  have := h2.2 i hi
  rw [up_self hi h] at this
  omega

theorem roots_snoc (ps : List Int) {k : Nat} (hk : k < ps.length) : rootsF (ps.take (k + 1)) = rootsF (ps.take k) + if ps[k] < 0 then 1 else 0 := by
  unfold rootsF
  rw [List.take_succ_eq_append_getElem hk, List.countP_append]
  by_cases h : ps[k] < 0 <;> simp [h]
theorem roots_le (ps : List Int) : rootsF ps ≤ ps.length := List.countP_le_length
theorem all_snoc {α : Type} {ps : List α} {P : α → Prop} {k : Nat} (hk : k < ps.length) (h : ∀ p ∈ ps.take k, P p) : P ps[k] → ∀ p ∈ ps.take (k + 1), P p := by
  intro hp p hm
  rw [List.take_succ_eq_append_getElem hk, List.mem_append] at hm
  rcases hm with hm | hm
  · exact h p hm
  · simp at hm; rw [hm]; exact hp
theorem rootedB_bad' {ps : List Int} {k : Nat} (hk : k < ps.length) : ¬ (-1 ≤ ps[k] ∧ ps[k] < ps.length) → rootedB ps = false :=
  fun h => rootedB_bad fun h2 => h (h2 _ (List.getElem_mem hk))
theorem rootedB_self' {ps : List Int} {k : Nat} (hk : k < ps.length) : ps[k] = (k : Int) → rootedB ps = false := rootedB_self hk

theorem up_tail (ps : List Int) : ∀ (k : Nat) (v : Int), up ps (k + 1) v = if up ps k v < 0 then up ps k v else ps[(up ps k v).toNat]?.getD 0
  | 0, v => rfl
  | k + 1, v => by
    rw [up]
    by_cases h : v < 0
    · rw [if_pos h, up_neg h, if_pos h]
    · rw [if_neg h, up_tail ps k]
      have : up ps (k + 1) v = up ps k (ps[v.toNat]?.getD 0) := by rw [up, if_neg h]
      rw [this]
theorem up_stop {ps : List Int} {k n : Nat} {v : Int} (h : up ps k v < 0) (hkn : k ≤ n) : up ps n v < 0 := by
  induction n with
  | zero => obtain rfl : k = 0 := by omega
            exact h
  | succ n ih =>
    by_cases hk : k = n + 1
    · subst hk; exact h
    · have := ih (by omega)
      rw [up_tail, if_pos this]; exact this
theorem rootedB_true {ps : List Int} (hv : ∀ p ∈ ps, -1 ≤ p ∧ p < ps.length) (hr : rootsF ps = 1) (h : ∀ i, i < ps.length → up ps ps.length (i : Int) < 0) : rootedB ps = true := by
  rw [rootedB_of hv, hr]
  simp
  exact (order_whole hv).2 h
/-! ### Counters in a list -/
def Cnts (n : Nat) (cs : List Int) (f : Nat → Nat) : Prop := cs.length = n ∧ ∀ u, u < n → cs[u]? = some (f u : Int)
theorem Cnts.zero (n : Nat) : Cnts n (List.replicate n 0) fun _ => 0 := ⟨by simp, fun u hu => by simp [hu]⟩
theorem Cnts.congr {n : Nat} {cs : List Int} {f g : Nat → Nat} (h : Cnts n cs f) (hfg : ∀ u, u < n → f u = g u) : Cnts n cs g := ⟨h.1, fun u hu => by rw [h.2 u hu, hfg u hu]⟩
theorem Cnts.put {n : Nat} {cs : List Int} {f g : Nat → Nat} {j : Nat} {c : Int} (h : Cnts n cs f) (hj : c = (g j : Int)) (hfg : ∀ u, u < n → u ≠ j → f u = g u) : Cnts n (cs.set j c) g := by
  refine ⟨by simp [h.1], fun u hu => ?_⟩
  by_cases he : j = u
  · subst he
    rw [List.getElem?_set_self (by rw [h.1]; exact hu), hj]
  · rw [List.getElem?_set_ne he, h.2 u hu, hfg u hu (fun e => he e.symm)]
theorem Cnts.get {n : Nat} {cs : List Int} {f : Nat → Nat} (h : Cnts n cs f) {u : Nat} (hu : u < n) (hl : u < cs.length) : cs[u] = (f u : Int) := by
  have := h.2 u hu
  rw [List.getElem?_eq_getElem hl] at this
  injection this

def cnt1 (ps : List Int) (k u : Nat) : Nat := (List.range k).countP fun j => par ps j == (u : Int)
theorem cnt1_succ (ps : List Int) (k u : Nat) : cnt1 ps (k + 1) u = cnt1 ps k u + if par ps k = (u : Int) then 1 else 0 := by
  unfold cnt1
  rw [List.range_succ, List.countP_append]
  by_cases h : par ps k = (u : Int) <;> simp [h]
theorem cnt1_le (ps : List Int) (k u : Nat) : cnt1 ps k u ≤ k := by
  have := List.countP_le_length (l := List.range k) (p := fun j => par ps j == (u : Int))
  simpa [cnt1] using this
theorem cnt1_whole (ps : List Int) (u : Nat) : cnt1 ps ps.length u = cntF ps [] u := by
  unfold cnt1 cntF
  simp
theorem cntF_le (ps : List Int) (D : List Nat) (u : Nat) : cntF ps D u ≤ ps.length := by
  have := List.countP_le_length (l := List.range ps.length) (p := fun k => (par ps k == (u : Int)) && !(D.contains k))
  simpa [cntF] using this

structure InnerI (ps : List Int) (k : Nat) (D : List Nat) (cs : List Int) (v : Int) : Prop where
  greedy : Greedy ps D
  cnts : Cnts ps.length cs (cntF ps D)
  le : ∀ d ∈ D, d ≤ k
  only : ∀ u, ready ps D u → k < u ∨ (u : Int) = v
  out : ∀ p : Nat, v = (p : Int) → p ∉ D

theorem InnerI.start {ps : List Int} {k : Nat} {D : List Nat} {cs : List Int} (hG : Greedy ps D) (hc : Cnts ps.length cs (cntF ps D)) (hl : ∀ d ∈ D, d < k) (hr : ∀ u, ready ps D u → k ≤ u) : InnerI ps k D cs (k : Int) :=
  ⟨hG, hc, fun d hd => by have := hl d hd; omega, fun u hu => by have := hr u hu; omega, fun p hp hm => by have := hl p hm; omega⟩

theorem InnerI.ready {ps : List Int} {k : Nat} {D : List Nat} {cs : List Int} {v : Nat} (h : InnerI ps k D cs (v : Int)) (hv : v < ps.length) (h0 : cntF ps D v = 0) : ready ps D v :=
  ⟨hv, h.out v rfl, cnt_zero.1 h0⟩

theorem InnerI.length {ps : List Int} {k : Nat} {D : List Nat} {cs : List Int} {v : Nat} (h : InnerI ps k D cs (v : Int)) (hv : v < ps.length) : D.length < ps.length := by
  have h1 : (v :: D).Nodup := List.nodup_cons.2 ⟨h.out v rfl, h.greedy.nodup⟩
  have h2 := nodup_le (m := List.range ps.length) h1 fun x hx => by
    simp at hx; rcases hx with rfl | hx
    · exact List.mem_range.2 hv
    · exact List.mem_range.2 (h.greedy.lt hx)
  simp at h2; omega

theorem InnerI.emit {ps : List Int} {k : Nat} {D : List Nat} {cs : List Int} {v : Nat} (h : InnerI ps k D cs (v : Int)) (hv : v < ps.length) (hvk : v ≤ k) (h0 : cntF ps D v = 0) {cs' : List Int} (hc : Cnts ps.length cs' (cntF ps (D ++ [v]))) :
    InnerI ps k (D ++ [v]) cs' (par ps v) := by
  have hr := h.ready hv h0
  have hG : Greedy ps (D ++ [v]) := h.greedy.snoc hr fun u hu hru => by
    rcases h.only u hru with h1 | h1
    · omega
    · omega
  refine ⟨hG, hc, fun d hd => ?_, fun u hu => ?_, fun p hp => hG.parent_out hp⟩
  · simp at hd; rcases hd with hd | rfl
    · exact h.le d hd
    · exact hvk
  · rcases ready_emit hu with h1 | h1
    · rcases h.only u h1 with h2 | h2
      · exact .inl h2
      · exfalso
        have : u = v := by omega
        subst this
        exact hu.2.1 (by simp)
    · exact .inr h1.symm

theorem InnerI.done {ps : List Int} {k : Nat} {D : List Nat} {cs : List Int} {v : Int} (h : InnerI ps k D cs v) (hx : v < 0 ∨ (k : Int) < v ∨ ∃ p : Nat, v = (p : Int) ∧ cntF ps D p ≠ 0) : ∀ u, JT.ready ps D u → k + 1 ≤ u := by
  intro u hu
  rcases h.only u hu with h1 | h1
  · omega
  · rcases hx with h2 | h2 | ⟨p, hp, h2⟩
    · omega
    · omega
    · exfalso
      have : u = p := by omega
      subst this
      exact h2 (cnt_zero.2 hu.2.2)

end Go.Proofs.YthgaflmldbgbnaaGreatDoor.JT
end
namespace Go.Proofs.YthgaflmldbgbnaaGreatDoor
end Go.Proofs.YthgaflmldbgbnaaGreatDoor
section
namespace Go.Proofs.YthgaflmldbgbnaaGreatDoor.JT

theorem has_eq (e v : Nat) : has e v = e.testBit v := by
  unfold has
  rw [Nat.testBit_eq_decide_div_mod_eq]
  rw [Bool.eq_iff_iff]
  simp

def topF (es : List Nat) (ps : List Int) (i : Nat) : Nat := dif (es[i]?.getD 0) (sepF es ps (i : Int))
def seenTo (es : List Nat) (ps : List Int) : Nat → Nat
  | 0 => 0
  | k + 1 => seenTo es ps k ||| topF es ps k

def U32 (es : List Nat) : Prop := ∀ e ∈ es, e ≤ 4294967295

theorem U32.get {es : List Nat} (h : U32 es) (i : Nat) : es[i]?.getD 0 < 4294967296 := by
  by_cases hi : i < es.length
  · have := h es[i] (List.getElem_mem hi)
    simp [hi]; omega
  · simp [List.getElem?_eq_none (Nat.le_of_not_lt hi)]

theorem sepF_le (es : List Nat) (ps : List Int) (i : Nat) : sepF es ps (i : Int) ≤ es[i]?.getD 0 := by
  unfold sepF
  split
  · split
    · simp only [Int.toNat_natCast]
      exact Nat.and_le_left
    · exact Nat.zero_le _
  · exact Nat.zero_le _

theorem topF_lt {es : List Nat} {ps : List Int} (h : U32 es) (i : Nat) : topF es ps i < 4294967296 := dif_lt _ _ (h.get i)
theorem seenTo_lt {es : List Nat} {ps : List Int} (h : U32 es) : ∀ k, seenTo es ps k < 4294967296
  | 0 => by simp [seenTo]
  | k + 1 => by
    unfold seenTo
    have h1 := seenTo_lt (ps := ps) h k
    have h2 := topF_lt (ps := ps) h k
    exact Nat.or_lt_two_pow (n := 32) h1 h2

theorem seenTo_bit (es : List Nat) (ps : List Int) (v : Nat) : ∀ k, (seenTo es ps k).testBit v = true ↔ ∃ i, i < k ∧ (topF es ps i).testBit v = true
  | 0 => by simp [seenTo]
  | k + 1 => by
    unfold seenTo
    rw [Nat.testBit_or, Bool.or_eq_true, seenTo_bit es ps v k]
    constructor
    · rintro (⟨i, h1, h2⟩ | h)
      · exact ⟨i, by omega, h2⟩
      · exact ⟨k, by omega, h⟩
    · rintro ⟨i, h1, h2⟩
      by_cases hi : i < k
      · exact .inl ⟨i, hi, h2⟩
      · obtain rfl : i = k := by omega
        exact .inr h2

def TopsOk (es : List Nat) (ps : List Int) : Prop := ∀ i, i < es.length → seenTo es ps i &&& topF es ps i = 0

theorem topsOk_iff (es : List Nat) (ps : List Int) : TopsOk es ps ↔ ∀ v i j, i < j → j < es.length → ¬ ((topF es ps i).testBit v = true ∧ (topF es ps j).testBit v = true) := by
  constructor
  · intro h v i j hij hj ⟨h1, h2⟩
    have h3 := h j hj
    have h4 : (seenTo es ps j &&& topF es ps j).testBit v = true := by
      rw [Nat.testBit_and, h2, (seenTo_bit es ps v j).2 ⟨i, hij, h1⟩]; rfl
    rw [h3] at h4
    simp at h4
  · intro h j hj
    apply Nat.eq_of_testBit_eq
    intro v
    rw [Nat.testBit_and, Nat.zero_testBit]
    cases h1 : (topF es ps j).testBit v
    · simp
    · rw [Bool.and_true]
      rw [Bool.eq_false_iff]
      intro h2
      obtain ⟨i, hi, h3⟩ := (seenTo_bit es ps v j).1 h2
      exact h v i j hi hj ⟨h3, h1⟩

theorem countP_le_one (p : Nat → Bool) : ∀ m, (List.range m).countP p ≤ 1 ↔ ∀ i j, i < j → j < m → ¬ (p i = true ∧ p j = true)
  | 0 => by simp
  | m + 1 => by
    rw [List.range_succ, List.countP_append]
    have hlast : List.countP p [m] = if p m then 1 else 0 := by simp [List.countP_cons]
    rw [hlast]
    constructor
    · intro h i j hij hj ⟨h1, h2⟩
      by_cases hjm : j < m
      · exact (countP_le_one p m).1 (by omega) i j hij hjm ⟨h1, h2⟩
      · obtain rfl : j = m := by omega
        rw [if_pos h2] at h
        have : (List.range j).countP p = 0 := by omega
        rw [List.countP_eq_zero] at this
        exact this i (List.mem_range.2 hij) h1
    · intro h
      by_cases hm : p m = true
      · rw [if_pos hm]
        have : (List.range m).countP p = 0 := by
          rw [List.countP_eq_zero]
          intro i hi h1
          exact h i m (List.mem_range.1 hi) (by omega) ⟨h1, hm⟩
        omega
      · rw [if_neg hm]
        exact (countP_le_one p m).2 fun i j hij hj => h i j hij (by omega)

theorem countP_split (p q : Nat → Bool) (l : List Nat) : l.countP p = l.countP (fun i => p i && q i) + l.countP (fun i => p i && !q i) := by
  induction l with
  | nil => rfl
  | cons a l ih =>
    simp only [List.countP_cons]
    cases p a <;> cases q a <;> simp <;> omega

theorem topF_bit {es : List Nat} {ps : List Int} (hu : U32 es) (hl : ps.length = es.length) (hv : ∀ p ∈ ps, -1 ≤ p ∧ p < ps.length) {i : Nat} (hi : i < es.length) (v : Nat) :
    (topF es ps i).testBit v = (has (es[i]?.getD 0) v && !(decide (0 ≤ ps[i]?.getD 0) && has (es[(ps[i]?.getD 0).toNat]?.getD 0) v)) := by
  unfold topF
  rw [testBit_dif _ _ _ (hu.get i) (Nat.lt_of_le_of_lt (sepF_le es ps i) (hu.get i)), has_eq, has_eq]
  have hb := hv ps[i] (List.getElem_mem (by omega))
  have hpi : ps[i]?.getD 0 = ps[i] := by simp [show i < ps.length by omega]
  unfold sepF
  rw [if_pos (by omega)]
  simp only [Int.toNat_natCast]
  rw [hpi]
  by_cases hp : 0 ≤ ps[i]
  · rw [if_pos (by omega), Nat.testBit_and]
    simp [hp]
    cases (es[i]?.getD 0).testBit v <;> simp
  · rw [if_neg (by omega)]
    simp [hp]

theorem joinB_iff {N : Nat} {es : List Nat} {ps : List Int} (hN : ∀ e ∈ es, e < 2 ^ N) (hN2 : N ≤ 32) (hl : ps.length = es.length) (hr : rootedB ps = true) : joinB N es ps = true ↔ TopsOk es ps := by
  have hu : U32 es := fun e he => by
    have := hN e he
    have : 2 ^ N ≤ 2 ^ 32 := Nat.pow_le_pow_right (by omega) hN2
    omega
  have hr' := hr
  unfold rootedB at hr'
  simp only [Bool.and_eq_true, List.all_eq_true, List.mem_range, decide_eq_true_eq] at hr'
  obtain ⟨⟨hvalid, _⟩, hup⟩ := hr'
  have hv : ∀ p ∈ ps, -1 ≤ p ∧ p < ps.length := by
    unfold validB at hvalid
    simp only [List.all_eq_true, Bool.and_eq_true, decide_eq_true_eq] at hvalid
    exact hvalid
  have hcnt : ∀ v, nodesF es v = linksF es ps v + (List.range es.length).countP (fun i => (topF es ps i).testBit v) := by
    intro v
    unfold nodesF linksF
    rw [countP_split _ (fun i => decide (0 ≤ ps[i]?.getD 0) && has (es[(ps[i]?.getD 0).toNat]?.getD 0) v)]
    congr 1
    · apply List.countP_congr
      intro i _
      unfold linkB
      rw [Bool.and_assoc]
    · apply List.countP_congr
      intro i hi
      rw [topF_bit hu hl hv (List.mem_range.1 hi)]
  have hone : ∀ v, 0 < nodesF es v → 0 < (List.range es.length).countP (fun i => (topF es ps i).testBit v) := by
    intro v hpos
    refine Classical.byContradiction fun hz => ?_
    have hz0 : (List.range es.length).countP (fun i => (topF es ps i).testBit v) = 0 := by omega
    rw [List.countP_eq_zero] at hz0
    unfold nodesF at hpos
    rw [List.countP_pos_iff] at hpos
    obtain ⟨i, hi, hiv⟩ := hpos
    have hch : ∀ k (i : Nat), i < es.length → has (es[i]?.getD 0) v = true → 0 ≤ up ps k (i : Int) := by
      intro k
      induction k with
      | zero => intro i _ _; simp [up]
      | succ k ih =>
        intro i hi hiv
        have h1 := hz0 i (List.mem_range.2 hi)
        rw [topF_bit hu hl hv hi, hiv] at h1
        simp at h1
        have hb := hv ps[i] (List.getElem_mem (by omega))
        have hpi : ps[i]?.getD 0 = ps[i] := by simp [show i < ps.length by omega]
        rw [hpi] at h1
        rw [up_succ (by omega), show par ps i = ps[i] by simp [par, show i < ps.length by omega]]
        obtain ⟨q, hq⟩ := Int.eq_ofNat_of_zero_le h1.1
        rw [hq]
        apply ih q (by omega)
        have h2 := h1.2
        rw [hq] at h2
        simpa using h2
    have h3 := hch ps.length i (List.mem_range.1 hi) hiv
    have h4 := hup i (by have := List.mem_range.1 hi; omega)
    omega
  rw [topsOk_iff]
  unfold joinB
  simp only [List.all_eq_true, List.mem_range, Bool.or_eq_true, beq_iff_eq]
  constructor
  · intro h v i j hij hj
    by_cases hvN : v < N
    · refine (countP_le_one (fun i => (topF es ps i).testBit v) es.length).1 ?_ i j hij hj
      have h1 := hcnt v
      rcases h v hvN with h2 | h2
      · omega
      · omega
    · rintro ⟨h1, _⟩
      rw [topF_bit hu hl hv (by omega)] at h1
      simp only [Bool.and_eq_true] at h1
      have h2 := h1.1
      rw [has_eq] at h2
      have h3 : es[i]?.getD 0 < 2 ^ v := by
        have h4 := hN es[i] (List.getElem_mem (show i < es.length by omega))
        have h5 : 2 ^ N ≤ 2 ^ v := Nat.pow_le_pow_right (by omega) (by omega)
        simp [show i < es.length by omega]
        omega
      rw [Nat.testBit_lt_two_pow h3] at h2
      cases h2
  · intro h v hvN
    have h1 := hcnt v
    have h2 := hone v
    have h3 := (countP_le_one (fun i => (topF es ps i).testBit v) es.length).2 (fun i j hij hj => h v i j hij hj)
    by_cases h0 : nodesF es v = 0
    · exact .inl h0
    · right
      have := h2 (by omega)
      omega

def nodesTo (es : List Nat) (v k : Nat) : Nat := (List.range k).countP fun i => has (es[i]?.getD 0) v
theorem nodesTo_succ (es : List Nat) (v k : Nat) : nodesTo es v (k + 1) = nodesTo es v k + if has (es[k]?.getD 0) v then 1 else 0 := by
  unfold nodesTo
  rw [List.range_succ, List.countP_append]
  simp [List.countP_cons]
theorem nodesTo_le (es : List Nat) (v k : Nat) : nodesTo es v k ≤ k := by
  have := List.countP_le_length (l := List.range k) (p := fun i => has (es[i]?.getD 0) v)
  simpa [nodesTo] using this
theorem chkF_hg {N : Int} {es : List Nat} {ps : List Int} (h : hgCheckF N es ≠ 0) : chkF N es ps = hgCheckF N es := by unfold chkF; rw [if_pos h]
theorem chkF_len {N : Int} {es : List Nat} {ps : List Int} (h : hgCheckF N es = 0) (hl : ps.length ≠ es.length) : chkF N es ps = 28 := by
  unfold chkF; rw [if_neg (by simp [h]), if_pos hl]
theorem chkF_root {N : Int} {es : List Nat} {ps : List Int} (h : hgCheckF N es = 0) (hl : ps.length = es.length) (hr : rootedB ps = false) : chkF N es ps = 15 := by
  unfold chkF; rw [if_neg (by simp [h]), if_neg (by simp [hl]), if_pos hr]
theorem chkF_tops {N : Int} {es : List Nat} {ps : List Int} (h : hgCheckF N es = 0) (hl : ps.length = es.length) (hr : rootedB ps = true) (ht : ¬ TopsOk es ps) : chkF N es ps = 24 := by
  obtain ⟨n, rfl, hn, _, hN⟩ := hgCheckF_zero h
  have h1 := joinB_iff hN hn hl hr
  unfold chkF
  rw [if_neg (by simp [h]), if_neg (by simp [hl]), if_neg (by simp [hr]), if_pos]
  rw [Bool.eq_false_iff]
  intro h2
  exact ht (h1.1 (by simpa using h2))
theorem chkF_ok {N : Int} {es : List Nat} {ps : List Int} (h : hgCheckF N es = 0) (hl : ps.length = es.length) (hr : rootedB ps = true) (ht : TopsOk es ps) : chkF N es ps = 0 := by
  obtain ⟨n, rfl, hn, _, hN⟩ := hgCheckF_zero h
  have h1 := joinB_iff hN hn hl hr
  unfold chkF
  rw [if_neg (by simp [h]), if_neg (by simp [hl]), if_neg (by simp [hr]), if_neg]
  rw [Int.toNat_natCast, h1.2 ht]
  simp

end Go.Proofs.YthgaflmldbgbnaaGreatDoor.JT
end
namespace Go.Proofs.YthgaflmldbgbnaaGreatDoor
end Go.Proofs.YthgaflmldbgbnaaGreatDoor
section
namespace Go.Proofs.YthgaflmldbgbnaaGreatDoor.JT

def rerootGo (ps : List Int) : Nat → Int → Int → List Int → List Int
  | 0, _, _, out => out
  | f + 1, a, ab, out => if a < 0 then out else rerootGo ps f (ps[a.toNat]?.getD 0) a (out.set a.toNat ab)
def rerootF (ps : List Int) (root : Int) : List Int := rerootGo ps ps.length root (-1) ps

theorem rerootGo_neg {ps : List Int} {a ab : Int} {out : List Int} (h : a < 0) : ∀ f, rerootGo ps f a ab out = out
  | 0 => rfl
  | f + 1 => by rw [rerootGo, if_pos h]
theorem rerootGo_step {ps : List Int} {v : Nat} {ab : Int} {out : List Int} {f : Nat} (hv : v < ps.length) : rerootGo ps (f + 1) (v : Int) ab out = rerootGo ps f ps[v] (v : Int) (out.set v ab) := by
  rw [rerootGo, if_neg (by omega)]
  simp [hv]
theorem up_pos {ps : List Int} {v : Nat} {f : Nat} (h : up ps f (v : Int) < 0) (hv : v < ps.length) : ∃ g, f = g + 1 ∧ up ps g ps[v] < 0 := by
  cases f with
  | zero => simp [up] at h; omega
  | succ g =>
    refine ⟨g, rfl, ?_⟩
    rw [up_succ hv] at h
    simpa [par, hv] using h

theorem rooted_parts {ps : List Int} (h : rootedB ps = true) : (∀ p ∈ ps, -1 ≤ p ∧ p < ps.length) ∧ rootsF ps = 1 ∧ ∀ i, i < ps.length → up ps ps.length (i : Int) < 0 := by
  unfold rootedB at h
  simp only [Bool.and_eq_true, List.all_eq_true, List.mem_range, decide_eq_true_eq, beq_iff_eq] at h
  refine ⟨?_, h.1.2, h.2⟩
  have h1 := h.1.1
  unfold validB at h1
  simp only [List.all_eq_true, Bool.and_eq_true, decide_eq_true_eq] at h1
  exact h1
theorem rooted_pos {ps : List Int} (h : rootedB ps = true) : 0 < ps.length := by
  have := (rooted_parts h).2.1
  cases ps with
  | nil => simp [rootsF] at this
  | cons => simp

/-! ### The reference's way to the order: the smallest ready node, found from above -/
end Go.Proofs.YthgaflmldbgbnaaGreatDoor.JT
end
namespace Go.Proofs.YthgaflmldbgbnaaGreatDoor
end Go.Proofs.YthgaflmldbgbnaaGreatDoor
section
namespace Go.Proofs.YthgaflmldbgbnaaGreatDoor.JT

def absorbs (R : List Nat) (rem : List Bool) (e i : Nat) : Bool := !(e == i) && !(rem[e]?.getD true) && !(rem[i]?.getD true) && (dif (R[e]?.getD 0) (R[i]?.getD 0) == 0)
def IsAbsorb (R : List Nat) (rem : List Bool) (e i : Nat) : Prop := e < R.length ∧ i < R.length ∧ absorbs R rem e i = true ∧ (∀ i', i' < i → absorbs R rem e i' = false) ∧ ∀ e', e' < e → ∀ i', i' < R.length → absorbs R rem e' i' = false
def NoAbsorb (R : List Nat) (rem : List Bool) : Prop := ∀ e, e < R.length → ∀ i, i < R.length → absorbs R rem e i = false

def absorbF (R : List Nat) (rem : List Bool) : Option (Nat × Nat) := (List.range R.length).findSome? fun e => ((List.range R.length).find? (absorbs R rem e)).map fun i => (e, i)

theorem absorbF_none {R : List Nat} {rem : List Bool} (h : NoAbsorb R rem) : absorbF R rem = none := by
  unfold absorbF
  rw [List.findSome?_eq_none_iff]
  intro e he
  rw [Option.map_eq_none_iff, List.find?_eq_none]
  intro i hi
  rw [h e (List.mem_range.1 he) i (List.mem_range.1 hi)]
  simp

theorem find_range {n k : Nat} {p : Nat → Bool} (hk : k < n) (hp : p k = true) (hm : ∀ j, j < k → p j = false) : (List.range n).find? p = some k := by
  rw [List.find?_range_eq_some]
  exact ⟨hp, List.mem_range.2 hk, fun j hj => by simp [hm j hj]⟩

theorem findSome_range {α : Type} {n k : Nat} {p : Nat → Option α} {x : α} (hk : k < n) (hp : p k = some x) (hm : ∀ j, j < k → p j = none) : (List.range n).findSome? p = some x := by
  induction n with
  | zero => omega
  | succ n ih =>
    rw [List.range_succ, List.findSome?_append]
    by_cases h : k < n
    · rw [ih h]; rfl
    · obtain rfl : k = n := by omega
      have : (List.range k).findSome? p = none := by
        rw [List.findSome?_eq_none_iff]
        intro j hj
        exact hm j (List.mem_range.1 hj)
      rw [this]
      simp [hp]

theorem absorbF_some {R : List Nat} {rem : List Bool} {e i : Nat} (h : IsAbsorb R rem e i) : absorbF R rem = some (e, i) := by
  obtain ⟨h1, h2, h3, h4, h5⟩ := h
  unfold absorbF
  apply findSome_range h1
  · rw [find_range h2 h3 h4]; rfl
  · intro e' he'
    rw [Option.map_eq_none_iff, List.find?_eq_none]
    intro i' hi'
    rw [h5 e' he' i' (List.mem_range.1 hi')]
    simp

def vcnt (R : List Nat) (v k : Nat) : Nat := nodesTo R v k
def vlast (R : List Nat) (v : Nat) : Nat → Nat
  | 0 => 0
  | k + 1 => if has (R[k]?.getD 0) v then k else vlast R v k
theorem vlast_has {R : List Nat} {v : Nat} : ∀ k, 0 < vcnt R v k → vlast R v k < k ∧ has (R[vlast R v k]?.getD 0) v = true
  | 0, h => by simp [vcnt, nodesTo] at h
  | k + 1, h => by
    unfold vlast
    by_cases hb : has (R[k]?.getD 0) v = true
    · rw [if_pos hb]; exact ⟨by omega, hb⟩
    · rw [if_neg hb]
      have h2 : 0 < vcnt R v k := by
        unfold vcnt at h ⊢
        rw [nodesTo_succ, if_neg hb] at h
        omega
      have := vlast_has k h2
      exact ⟨by omega, this.2⟩

def isolateF (n : Nat) (R : List Nat) : Option (Nat × Nat) := ((List.range n).find? fun v => vcnt R v R.length == 1).map fun v => (vlast R v R.length, v)
theorem isolateF_none {n : Nat} {R : List Nat} (h : ∀ v, v < n → vcnt R v R.length ≠ 1) : isolateF n R = none := by
  unfold isolateF
  rw [Option.map_eq_none_iff, List.find?_eq_none]
  intro v hv
  simpa using h v (List.mem_range.1 hv)
theorem isolateF_some {n v : Nat} {R : List Nat} (hv : v < n) (h1 : vcnt R v R.length = 1) (h : ∀ u, u < v → vcnt R u R.length ≠ 1) : isolateF n R = some (vlast R v R.length, v) := by
  unfold isolateF
  rw [find_range hv (by simpa using h1) (fun j hj => by simpa using h j hj)]
  rfl

abbrev Stp := Nat × Int × Int
structure Red where
  rest : List Nat
  rem : List Bool
  steps : List Stp

def stepF (n : Nat) (s : Red) : Option Red :=
  match absorbF s.rest s.rem with
  | some (e, i) => some ⟨s.rest.set e 0, s.rem.set e true, s.steps ++ [(e, (i : Int), -1)]⟩
  | none => match isolateF n s.rest with
    | some (e, v) => some ⟨s.rest.set e (dif (s.rest[e]?.getD 0) (2 ^ v)), s.rem, s.steps ++ [(e, -1, (v : Int))]⟩
    | none => none

def runF (n : Nat) : Nat → Red → Red
  | 0, s => s
  | f + 1, s => match stepF n s with | some s' => runF n f s' | none => s

def bitsOf (x : Nat) : Nat := (List.range 32).countP fun v => x.testBit v
def weight (s : Red) : Nat := s.rem.countP (fun b => !b) + (s.rest.map bitsOf).sum

def startF (es : List Nat) : Red := ⟨es, List.replicate es.length false, []⟩
def reduceF (n : Nat) (es : List Nat) : Red := runF n (weight (startF es)) (startF es)

theorem bitsOf_le (x : Nat) : bitsOf x ≤ 32 := by
  have := List.countP_le_length (l := List.range 32) (p := fun v => x.testBit v)
  simpa [bitsOf] using this

theorem sum_set (l : List Nat) (i a : Nat) (h : i < l.length) : (l.set i a).sum + l[i] = l.sum + a := by
  induction l generalizing i with
  | nil => simp at h
  | cons x l ih =>
    cases i with
    | zero => simp; omega
    | succ i =>
      simp only [List.set_cons_succ, List.sum_cons, List.getElem_cons_succ]
      have := ih i (by simpa using h)
      omega

theorem countP_set_true (l : List Bool) (i : Nat) (h : i < l.length) (hb : l[i] = false) : (l.set i true).countP (fun b => !b) + 1 = l.countP (fun b => !b) := by
  induction l generalizing i with
  | nil => simp at h
  | cons x l ih =>
    cases i with
    | zero => simp at hb; subst hb; simp
    | succ i =>
      simp only [List.set_cons_succ, List.countP_cons]
      have := ih i (by simpa using h) (by simpa using hb)
      omega

theorem bitsOf_less {x v : Nat} (hx : x < 4294967296) (hv : v < 32) (h : has x v = true) : bitsOf (dif x (2 ^ v)) + 1 = bitsOf x := by
  unfold bitsOf
  have h2 : 2 ^ v < 4294967296 := by
    have : 2 ^ v < 2 ^ 32 := Nat.pow_lt_pow_right (by omega) hv
    omega
  apply countP_one_less _ List.nodup_range _ _ v (List.mem_range.2 hv)
  · rw [← has_eq]; exact h
  · rw [testBit_dif _ _ _ hx h2, Nat.testBit_two_pow_self]; simp
  · intro u _ hne
    rw [testBit_dif _ _ _ hx h2, Nat.testBit_two_pow_of_ne (fun e => hne e.symm)]; simp

theorem weight_start (es : List Nat) : weight (startF es) ≤ 33 * es.length := by
  unfold weight startF
  simp only
  have h1 : (List.replicate es.length false).countP (fun b => !b) ≤ es.length := by
    have := List.countP_le_length (l := List.replicate es.length false) (p := fun b => !b)
    simpa using this
  have h2 : (es.map bitsOf).sum ≤ 32 * es.length := by
    clear h1
    induction es with
    | nil => simp
    | cons a l ih =>
      have := bitsOf_le a
      simp only [List.map_cons, List.sum_cons, List.length_cons]
      omega
  omega

structure RedOk (m : Nat) (s : Red) : Prop where
  lrest : s.rest.length = m
  lrem : s.rem.length = m
  u32 : U32 s.rest
  zero : ∀ e : Nat, s.rem[e]? = some true → s.rest[e]?.getD 0 = 0

theorem RedOk.start {es : List Nat} (h : U32 es) : RedOk es.length (startF es) := by
  refine ⟨rfl, by simp [startF], h, fun e he => ?_⟩
  simp only [startF, List.getElem?_replicate] at he
  split at he <;> simp at he

theorem U32.set {R : List Nat} (h : U32 R) {e x : Nat} (hx : x < 4294967296) : U32 (R.set e x) := by
  intro y hy
  rcases List.mem_or_eq_of_mem_set hy with h1 | h1
  · exact h y h1
  · omega

theorem absorbs_parts {R : List Nat} {rem : List Bool} {e i : Nat} (h : absorbs R rem e i = true) : e ≠ i ∧ rem[e]? = some false ∧ rem[i]? = some false ∧ dif (R[e]?.getD 0) (R[i]?.getD 0) = 0 := by
  unfold absorbs at h
  simp only [Bool.and_eq_true, Bool.not_eq_true', beq_eq_false_iff_ne, beq_iff_eq] at h
  obtain ⟨⟨⟨h1, h2⟩, h3⟩, h4⟩ := h
  refine ⟨h1, ?_, ?_, h4⟩
  · cases h5 : rem[e]? with
    | none => rw [h5] at h2; simp at h2
    | some b => rw [h5] at h2; simp at h2; rw [h2]
  · cases h5 : rem[i]? with
    | none => rw [h5] at h3; simp at h3
    | some b => rw [h5] at h3; simp at h3; rw [h3]

inductive StepIs (n : Nat) (s : Red) : Red → Prop where
  | absorb (e i : Nat) (h : IsAbsorb s.rest s.rem e i) : StepIs n s ⟨s.rest.set e 0, s.rem.set e true, s.steps ++ [(e, (i : Int), -1)]⟩
  | isolate (e v : Nat) (hno : NoAbsorb s.rest s.rem) (hv : v < n) (h1 : vcnt s.rest v s.rest.length = 1) (hu : ∀ u, u < v → vcnt s.rest u s.rest.length ≠ 1) (he : e = vlast s.rest v s.rest.length) : StepIs n s ⟨s.rest.set e (dif (s.rest[e]?.getD 0) (2 ^ v)), s.rem, s.steps ++ [(e, -1, (v : Int))]⟩

theorem StepIs.stepF {n : Nat} {s s' : Red} (h : StepIs n s s') : stepF n s = some s' := by
  cases h with
  | absorb e i h => unfold JT.stepF; rw [absorbF_some h]
  | isolate e v hno hv h1 hu he => unfold JT.stepF; rw [absorbF_none hno, isolateF_some hv h1 hu, he]

theorem stepF_none {n : Nat} {s : Red} (h1 : NoAbsorb s.rest s.rem) (h2 : ∀ v, v < n → vcnt s.rest v s.rest.length ≠ 1) : stepF n s = none := by
  unfold stepF; rw [absorbF_none h1, isolateF_none h2]

theorem StepIs.ok {n m : Nat} {s s' : Red} (h : StepIs n s s') (hs : RedOk m s) (hn : n ≤ 32) : RedOk m s' ∧ weight s' < weight s := by
  cases h with
  | absorb e i h =>
    obtain ⟨h1, h2, h3, h4, h5⟩ := h
    obtain ⟨p1, p2, p3, p4⟩ := absorbs_parts h3
    have hel : e < s.rem.length := (List.getElem?_eq_some_iff.1 p2).1
    have heb : s.rem[e] = false := (List.getElem?_eq_some_iff.1 p2).2
    constructor
    · refine ⟨by simp [hs.lrest], by simp [hs.lrem], hs.u32.set (by omega), fun x hx => ?_⟩
      by_cases hxe : e = x
      · subst hxe; simp [h1]
      · rw [List.getElem?_set_ne hxe] at hx ⊢
        exact hs.zero x hx
    · unfold weight
      simp only
      have c1 := countP_set_true s.rem e hel heb
      have c2 : ((s.rest.set e 0).map bitsOf).sum ≤ (s.rest.map bitsOf).sum := by
        rw [List.map_set]
        have := sum_set (s.rest.map bitsOf) e (bitsOf 0) (by simpa using h1)
        have hz : bitsOf 0 = 0 := by decide
        omega
      omega
  | isolate e v hno hv h1 hu he =>
    have hl := vlast_has (R := s.rest) (v := v) s.rest.length (by omega)
    rw [← he] at hl
    obtain ⟨hel, heh⟩ := hl
    have hgd : s.rest[e]?.getD 0 = s.rest[e] := by simp [hel]
    have hb := hs.u32.get e
    have h32 : v < 32 := by omega
    have hless := bitsOf_less hb h32 heh
    constructor
    · refine ⟨by simp [hs.lrest], hs.lrem, hs.u32.set (dif_lt _ _ hb), fun x hx => ?_⟩
      by_cases hxe : e = x
      · subst hxe
        have := hs.zero e hx
        rw [this] at heh
        simp [has] at heh
      · rw [List.getElem?_set_ne hxe]
        exact hs.zero x hx
    · unfold weight
      simp only
      rw [List.map_set]
      have := sum_set (s.rest.map bitsOf) e (bitsOf (dif (s.rest[e]?.getD 0) (2 ^ v))) (by simpa using hel)
      rw [List.getElem_map] at this
      rw [hgd] at hless this ⊢
      omega

theorem stepF_is {n : Nat} {s s' : Red} (h : stepF n s = some s') : StepIs n s s' := by
  unfold stepF at h
  cases ha : absorbF s.rest s.rem with
  | some p =>
    obtain ⟨e, i⟩ := p
    rw [ha] at h
    simp only [Option.some.injEq] at h
    subst h
    apply StepIs.absorb
    unfold absorbF at ha
    rw [List.findSome?_eq_some_iff] at ha
    obtain ⟨l1, e', l2, hl, hp, hall⟩ := ha
    rw [Option.map_eq_some_iff] at hp
    obtain ⟨i', hi', he'⟩ := hp
    injection he' with he1 he2
    subst he1 he2
    rw [List.find?_range_eq_some] at hi'
    have hrange : l1 = List.range e' ∧ e' < s.rest.length := by
      have hlen : l1.length < s.rest.length := by
        have := congrArg List.length hl
        simp at this; omega
      have hget : (List.range s.rest.length)[l1.length]? = some e' := by rw [hl]; simp
      rw [List.getElem?_range hlen] at hget
      injection hget with hget
      refine ⟨?_, by omega⟩
      have htake : (List.range s.rest.length).take l1.length = l1 := by rw [hl]; simp
      rw [← htake, List.take_range, hget, Nat.min_eq_left (by omega)]
    obtain ⟨hl1, hel⟩ := hrange
    refine ⟨hel, List.mem_range.1 hi'.2.1, hi'.1, fun i'' h2 => by simpa using hi'.2.2 i'' h2, fun e'' he'' i'' hi'' => ?_⟩
    have h3 := hall e'' (by rw [hl1]; exact List.mem_range.2 he'')
    rw [Option.map_eq_none_iff, List.find?_eq_none] at h3
    simpa using h3 i'' (List.mem_range.2 hi'')
  | none =>
    rw [ha] at h
    simp only at h
    have hno : NoAbsorb s.rest s.rem := by
      intro e he i hi
      unfold absorbF at ha
      rw [List.findSome?_eq_none_iff] at ha
      have h3 := ha e (List.mem_range.2 he)
      rw [Option.map_eq_none_iff, List.find?_eq_none] at h3
      simpa using h3 i (List.mem_range.2 hi)
    cases hi : isolateF n s.rest with
    | none => rw [hi] at h; simp at h
    | some p =>
      obtain ⟨e, v⟩ := p
      rw [hi] at h
      simp only [Option.some.injEq] at h
      subst h
      unfold isolateF at hi
      rw [Option.map_eq_some_iff] at hi
      obtain ⟨v', hv', he'⟩ := hi
      injection he' with he1 he2
      subst he2
      rw [List.find?_range_eq_some] at hv'
      exact StepIs.isolate e v' hno (List.mem_range.1 hv'.2.1) (by simpa using hv'.1) (fun u hu => by simpa using hv'.2.2 u hu) he1.symm

theorem runF_of {n m : Nat} (hn : n ≤ 32) : ∀ f s, RedOk m s → weight s ≤ f → stepF n (runF n f s) = none ∧ RedOk m (runF n f s)
  | 0, s, hs, hw => by
    refine ⟨?_, hs⟩
    show stepF n s = none
    cases h : stepF n s with
    | none => rfl
    | some s' => have := ((stepF_is h).ok hs hn).2; omega
  | f + 1, s, hs, hw => by
    unfold runF
    cases h : stepF n s with
    | none => exact ⟨h, hs⟩
    | some s' =>
      obtain ⟨h1, h2⟩ := (stepF_is h).ok hs hn
      exact runF_of hn f s' h1 (by omega)

def Reach (n : Nat) (es : List Nat) (s : Red) : Prop := runF n (weight s) s = reduceF n es
theorem Reach.start (n : Nat) (es : List Nat) : Reach n es (startF es) := rfl
theorem runF_more {n m : Nat} (hn : n ≤ 32) : ∀ f g s, RedOk m s → weight s ≤ f → weight s ≤ g → runF n f s = runF n g s
  | 0, 0, _, _, _, _ => rfl
  | 0, g + 1, s, hs, hf, _ => by
    have h : stepF n s = none := by
      cases h : stepF n s with
      | none => rfl
      | some s' => have := ((stepF_is h).ok hs hn).2; omega
    unfold runF; rw [h]
  | f + 1, 0, s, hs, _, hg => by
    have h : stepF n s = none := by
      cases h : stepF n s with
      | none => rfl
      | some s' => have := ((stepF_is h).ok hs hn).2; omega
    unfold runF; rw [h]
  | f + 1, g + 1, s, hs, hf, hg => by
    unfold runF
    cases h : stepF n s with
    | none => rfl
    | some s' =>
      obtain ⟨h1, h2⟩ := (stepF_is h).ok hs hn
      exact runF_more hn f g s' h1 (by omega) (by omega)
theorem Reach.step {n m : Nat} {es : List Nat} {s s' : Red} (hn : n ≤ 32) (hs : RedOk m s) (h : Reach n es s) (hst : StepIs n s s') : Reach n es s' := by
  obtain ⟨h1, h2⟩ := hst.ok hs hn
  unfold Reach at h ⊢
  rw [← h]
  obtain ⟨k, hk⟩ : ∃ k, weight s = k + 1 := ⟨weight s - 1, by omega⟩
  rw [hk, show runF n (k + 1) s = runF n k s' by rw [runF, hst.stepF]]
  exact runF_more hn _ _ s' h1 (Nat.le_refl _) (by omega)
theorem Reach.done {n : Nat} {es : List Nat} {s : Red} (h : Reach n es s) (hst : stepF n s = none) : s = reduceF n es := by
  unfold Reach at h
  rw [← h]
  cases hw : weight s with
  | zero => rfl
  | succ k => rw [runF, hst]

theorem reduceF_ok {n : Nat} {es : List Nat} (hu : U32 es) (hn : n ≤ 32) : RedOk es.length (reduceF n es) := (runF_of hn _ _ (RedOk.start hu) (Nat.le_refl _)).2
theorem reduceF_end {n : Nat} {es : List Nat} (hu : U32 es) (hn : n ≤ 32) : stepF n (reduceF n es) = none := (runF_of hn _ _ (RedOk.start hu) (Nat.le_refl _)).1

theorem runF_steps {n m : Nat} (hn : n ≤ 32) : ∀ f s, RedOk m s → (runF n f s).steps.length ≤ s.steps.length + weight s
  | 0, s, _ => by unfold runF; omega
  | f + 1, s, hs => by
    unfold runF
    cases h : stepF n s with
    | none => simp only; omega
    | some s' =>
      simp only
      have hst := stepF_is h
      obtain ⟨h1, h2⟩ := hst.ok hs hn
      have h3 := runF_steps hn f s' h1
      have h4 : s'.steps.length = s.steps.length + 1 := by cases hst <;> simp
      omega
theorem reduceF_steps {n : Nat} {es : List Nat} (hu : U32 es) (hn : n ≤ 32) : (reduceF n es).steps.length ≤ 33 * es.length := by
  have h1 := runF_steps hn (weight (startF es)) _ (RedOk.start hu)
  have h2 := weight_start es
  have h3 : (startF es).steps.length = 0 := rfl
  unfold reduceF
  omega

end Go.Proofs.YthgaflmldbgbnaaGreatDoor.JT
end
namespace Go.Proofs.YthgaflmldbgbnaaGreatDoor
end Go.Proofs.YthgaflmldbgbnaaGreatDoor
section
namespace Go.Proofs.YthgaflmldbgbnaaGreatDoor.JT

def putPar (ps : List Int) (t : Stp) : List Int := if 0 ≤ t.2.1 then ps.set t.1 t.2.1 else ps
def buildPar (m : Nat) (S : List Stp) : List Int := S.foldl putPar (List.replicate m (-1))
theorem buildPar_snoc (m : Nat) (S : List Stp) (t : Stp) : buildPar m (S ++ [t]) = putPar (buildPar m S) t := by simp [buildPar, List.foldl_append]

def isoS (S : List Stp) (e v : Nat) : Prop := (e, (-1 : Int), (v : Int)) ∈ S
def parS (S : List Stp) (e i : Nat) : Prop := (e, (i : Int), (-1 : Int)) ∈ S

theorem isoS_absorb {S : List Stp} {e i x v : Nat} : isoS (S ++ [(e, (i : Int), -1)]) x v ↔ isoS S x v := by
  unfold isoS
  simp only [List.mem_append, List.mem_singleton, Prod.mk.injEq]
  constructor
  · rintro (h | ⟨_, h, _⟩)
    · exact h
    · omega
  · exact .inl
theorem parS_absorb {S : List Stp} {e i x j : Nat} : parS (S ++ [(e, (i : Int), -1)]) x j ↔ parS S x j ∨ (x = e ∧ j = i) := by
  unfold parS
  simp only [List.mem_append, List.mem_singleton, Prod.mk.injEq]
  constructor
  · rintro (h | ⟨h1, h2, _⟩)
    · exact .inl h
    · exact .inr ⟨h1, by omega⟩
  · rintro (h | ⟨h1, h2⟩)
    · exact .inl h
    · exact .inr ⟨h1, by omega, trivial⟩
theorem isoS_isolate {S : List Stp} {e v x u : Nat} : isoS (S ++ [(e, -1, (v : Int))]) x u ↔ isoS S x u ∨ (x = e ∧ u = v) := by
  unfold isoS
  simp only [List.mem_append, List.mem_singleton, Prod.mk.injEq]
  constructor
  · rintro (h | ⟨h1, _, h2⟩)
    · exact .inl h
    · exact .inr ⟨h1, by omega⟩
  · rintro (h | ⟨h1, h2⟩)
    · exact .inl h
    · exact .inr ⟨h1, trivial, by omega⟩
theorem parS_isolate {S : List Stp} {e v x j : Nat} : parS (S ++ [(e, -1, (v : Int))]) x j ↔ parS S x j := by
  unfold parS
  simp only [List.mem_append, List.mem_singleton, Prod.mk.injEq]
  constructor
  · rintro (h | ⟨_, h, _⟩)
    · exact h
    · omega
  · exact .inl

abbrev bit (l : List Nat) (e v : Nat) : Prop := (l[e]?.getD 0).testBit v = true

structure Snd (es : List Nat) (s : Red) : Prop where
  shape : ∀ t ∈ s.steps, t.1 < es.length ∧ t.2.1 < es.length ∧ -1 ≤ t.2.1
  sub : ∀ e v, bit s.rest e v → bit es e v
  keep : ∀ e : Nat, s.rem[e]? = some false → ∀ v, bit es e v → bit s.rest e v ∨ isoS s.steps e v
  isoR : ∀ e v, isoS s.steps e v → ∀ e', ¬ bit s.rest e' v
  iso1 : ∀ e e' v, isoS s.steps e v → isoS s.steps e' v → e = e'
  parD : ∀ e : Nat, s.rem[e]? = some true → ∃ i, parS s.steps e i ∧ ∀ v, bit es e v → bit es i v ∨ isoS s.steps e v
  parR : ∀ e i, parS s.steps e i → s.rem[e]? = some true
  par1 : ∀ e i i', parS s.steps e i → parS s.steps e i' → i = i'
  ord : ∃ D : List Nat, D.Nodup ∧ (∀ e : Nat, e ∈ D ↔ s.rem[e]? = some true) ∧ ∀ e i, parS s.steps e i → D.idxOf e < D.idxOf i
  alive : ∃ e : Nat, s.rem[e]? = some false
  plen : (buildPar es.length s.steps).length = es.length
  pAt : ∀ e i, parS s.steps e i → (buildPar es.length s.steps)[e]? = some (i : Int)
  pNo : ∀ e : Nat, s.rem[e]? = some false → (buildPar es.length s.steps)[e]? = some (-1)

theorem Snd.start {es : List Nat} (hm : 0 < es.length) : Snd es (startF es) := by
  have hr : ∀ e : Nat, (startF es).rem[e]? = if e < es.length then some false else none := fun e => by
    simp [startF, List.getElem?_replicate]
  refine ⟨by simp [startF], fun _ _ h => h, fun _ _ _ h => .inl h, by simp [startF, isoS], by simp [startF, isoS], fun e he => ?_, by simp [startF, parS], by simp [startF, parS], ⟨[], List.nodup_nil, fun e => ?_, by simp [startF, parS]⟩, ⟨0, by simp [hr, hm]⟩, by simp [startF, buildPar], by simp [startF, parS], fun e he => ?_⟩
  · rw [hr] at he; split at he <;> simp at he
  · rw [hr]; split <;> simp
  · rw [hr] at he
    split at he
    · next h => simp [startF, buildPar, h]
    · simp at he

theorem bit_set {R : List Nat} {e x v y : Nat} (h : bit (R.set e y) x v) : (x = e ∧ y.testBit v = true) ∨ (x ≠ e ∧ bit R x v) := by
  unfold bit at h ⊢
  by_cases hx : e = x
  · subst hx
    left
    refine ⟨rfl, ?_⟩
    by_cases hl : e < R.length
    · simpa [hl] using h
    · rw [List.getElem?_set_self' ] at h
      simp [List.getElem?_eq_none (Nat.le_of_not_lt hl)] at h
  · right
    rw [List.getElem?_set_ne hx] at h
    exact ⟨fun e' => hx e'.symm, h⟩
theorem bit_set_ne {R : List Nat} {e x v y : Nat} (hx : x ≠ e) : bit (R.set e y) x v ↔ bit R x v := by
  unfold bit
  rw [List.getElem?_set_ne (fun h => hx h.symm)]

theorem sub_of_dif {a b v : Nat} (ha : a < 4294967296) (hb : b < 4294967296) (h : dif a b = 0) (hv : a.testBit v = true) : b.testBit v = true := by
  have := testBit_dif a b v ha hb
  rw [h, hv] at this
  simpa using this

theorem idxOf_snoc_mem {D : List Nat} {e x : Nat} (h : x ∈ D) : (D ++ [e]).idxOf x = D.idxOf x := by
  rw [List.idxOf_append, if_pos h]
theorem idxOf_snoc_not {D : List Nat} {e x : Nat} (h : x ∉ D) : (D ++ [e]).idxOf x = D.length + [e].idxOf x := by
  rw [List.idxOf_append, if_neg h]; omega

theorem Snd.absorb {es : List Nat} {s : Red} {e i : Nat} (h : Snd es s) (hok : RedOk es.length s) (ha : IsAbsorb s.rest s.rem e i) : Snd es ⟨s.rest.set e 0, s.rem.set e true, s.steps ++ [(e, (i : Int), -1)]⟩ := by
  obtain ⟨h1, h2, h3, _, _⟩ := ha
  obtain ⟨p1, p2, p3, p4⟩ := absorbs_parts h3
  rw [hok.lrest] at h1 h2
  have hel : e < s.rem.length := by rw [hok.lrem]; exact h1
  have hrem : ∀ x : Nat, (s.rem.set e true)[x]? = if x = e then some true else s.rem[x]? := fun x => by
    by_cases hx : e = x
    · subst hx; simp [hel]
    · rw [List.getElem?_set_ne hx, if_neg (fun h => hx h.symm)]
  have hsub : ∀ x v, bit (s.rest.set e 0) x v → bit s.rest x v := fun x v hb => by
    rcases bit_set hb with ⟨_, h0⟩ | ⟨_, h0⟩
    · simp at h0
    · exact h0
  refine ⟨fun t ht => ?_, fun x v hb => h.sub x v (hsub x v hb), fun x hx v hb => ?_, fun x v hi x' hb => ?_, fun x x' v hi hi' => ?_, fun x hx => ?_, fun x j hp => ?_, fun x j j' hp hp' => ?_, ?_, ⟨i, ?_⟩, ?_, fun x j hp => ?_, fun x hx => ?_⟩
  · simp only [List.mem_append, List.mem_singleton] at ht
    rcases ht with ht | rfl
    · exact h.shape t ht
    · simp only; omega
  · simp only [hrem] at hx
    split at hx
    · simp at hx
    · next hne =>
      rcases h.keep x hx v hb with h4 | h4
      · exact .inl ((bit_set_ne hne).2 h4)
      · exact .inr (isoS_absorb.2 h4)
  · exact h.isoR x v (isoS_absorb.1 hi) x' (hsub x' v hb)
  · exact h.iso1 x x' v (isoS_absorb.1 hi) (isoS_absorb.1 hi')
  · simp only [hrem] at hx
    split at hx
    · next hxe =>
      subst hxe
      refine ⟨i, parS_absorb.2 (.inr ⟨rfl, rfl⟩), fun v hb => ?_⟩
      rcases h.keep x p2 v hb with h4 | h4
      · exact .inl (h.sub i v (sub_of_dif (hok.u32.get x) (hok.u32.get i) p4 h4))
      · exact .inr (isoS_absorb.2 h4)
    · obtain ⟨j, hj, hv⟩ := h.parD x hx
      exact ⟨j, parS_absorb.2 (.inl hj), fun v hb => (hv v hb).imp id isoS_absorb.2⟩
  · simp only [hrem]
    rcases parS_absorb.1 hp with h4 | ⟨rfl, rfl⟩
    · split
      · rfl
      · exact h.parR x j h4
    · simp
  · rcases parS_absorb.1 hp with h4 | ⟨rfl, rfl⟩
    · rcases parS_absorb.1 hp' with h5 | ⟨rfl, rfl⟩
      · exact h.par1 x j j' h4 h5
      · have := h.parR x j h4; rw [p2] at this; simp at this
    · rcases parS_absorb.1 hp' with h5 | ⟨_, rfl⟩
      · have := h.parR x j' h5; rw [p2] at this; simp at this
      · rfl
  · obtain ⟨D, hD1, hD2, hD3⟩ := h.ord
    have heD : e ∉ D := fun hm => by have := (hD2 e).1 hm; rw [p2] at this; simp at this
    have hiD : i ∉ D := fun hm => by have := (hD2 i).1 hm; rw [p3] at this; simp at this
    refine ⟨D ++ [e], ?_, fun x => ?_, fun x j hp => ?_⟩
    · rw [List.nodup_append]
      exact ⟨hD1, by simp, fun a ha b hb => by simp at hb; subst hb; exact fun h => heD (h ▸ ha)⟩
    · simp only [hrem, List.mem_append, List.mem_singleton, hD2]
      split
      · next h => simp [h]
      · next h => simp [h]
    · rcases parS_absorb.1 hp with h4 | ⟨rfl, rfl⟩
      · have hxD : x ∈ D := (hD2 x).2 (h.parR x j h4)
        have hlt := hD3 x j h4
        rw [idxOf_snoc_mem hxD]
        by_cases hj : j ∈ D
        · rw [idxOf_snoc_mem hj]; exact hlt
        · rw [idxOf_snoc_not hj]
          have := List.idxOf_lt_length_of_mem hxD
          omega
      · have e1 : ([x] : List Nat).idxOf j = 1 := by
          have hb : (x == j) = false := by simpa using p1
          simp [List.idxOf_cons, hb]
        rw [idxOf_snoc_not heD, idxOf_snoc_not hiD, List.idxOf_cons_self, e1]
        omega
  · simp only [hrem]; rw [if_neg (fun h => p1 h.symm)]; exact p3
  · simp only [buildPar_snoc, putPar]
    split
    · rw [List.length_set]; exact h.plen
    · exact h.plen
  · simp only [buildPar_snoc, putPar]
    rw [if_pos (by simp)]
    rcases parS_absorb.1 hp with h4 | ⟨rfl, rfl⟩
    · have hne : e ≠ x := fun he => by subst he; have := h.parR e j h4; rw [p2] at this; simp at this
      rw [List.getElem?_set_ne hne]
      exact h.pAt x j h4
    · rw [List.getElem?_set_self (by rw [h.plen]; exact h1)]
  · simp only [hrem] at hx
    split at hx
    · simp at hx
    · next hne =>
      simp only [buildPar_snoc, putPar]
      rw [if_pos (by simp), List.getElem?_set_ne (fun h => hne h.symm)]
      exact h.pNo x hx

theorem vcnt_one {R : List Nat} {v : Nat} (h : vcnt R v R.length = 1) {x y : Nat} (hx : has (R[x]?.getD 0) v = true) (hy : has (R[y]?.getD 0) v = true) : x = y := by
  have hlt : ∀ z, has (R[z]?.getD 0) v = true → z < R.length := fun z hz => by
    refine Classical.byContradiction fun hn => ?_
    rw [List.getElem?_eq_none (Nat.le_of_not_lt hn)] at hz
    simp [has] at hz
  have h1 := (countP_le_one (fun i => has (R[i]?.getD 0) v) R.length).1 (by unfold vcnt nodesTo at h; omega)
  rcases Nat.lt_trichotomy x y with hxy | hxy | hxy
  · exact absurd ⟨hx, hy⟩ (h1 x y hxy (hlt y hy))
  · exact hxy
  · exact absurd ⟨hy, hx⟩ (h1 y x hxy (hlt x hx))

theorem Snd.isolate {es : List Nat} {s : Red} {n e v : Nat} (h : Snd es s) (hok : RedOk es.length s) (hn : n ≤ 32) (hv : v < n) (h1 : vcnt s.rest v s.rest.length = 1) (he : e = vlast s.rest v s.rest.length) :
    Snd es ⟨s.rest.set e (dif (s.rest[e]?.getD 0) (2 ^ v)), s.rem, s.steps ++ [(e, -1, (v : Int))]⟩ := by
  have hl := vlast_has (R := s.rest) (v := v) s.rest.length (by omega)
  rw [← he] at hl
  obtain ⟨hel, heh⟩ := hl
  have hb := hok.u32.get e
  have h2v : 2 ^ v < 4294967296 := by
    have : 2 ^ v < 2 ^ 32 := Nat.pow_lt_pow_right (by omega) (by omega)
    omega
  have hbits : ∀ u, (dif (s.rest[e]?.getD 0) (2 ^ v)).testBit u = ((s.rest[e]?.getD 0).testBit u && !(decide (v = u))) := fun u => by
    rw [testBit_dif _ _ _ hb h2v, Nat.testBit_two_pow]
  have hsub : ∀ x u, bit (s.rest.set e (dif (s.rest[e]?.getD 0) (2 ^ v))) x u → bit s.rest x u ∧ (x = e → u ≠ v) := fun x u hbx => by
    rcases bit_set hbx with ⟨rfl, h0⟩ | ⟨hne, h0⟩
    · rw [hbits] at h0
      simp only [Bool.and_eq_true, Bool.not_eq_true', decide_eq_false_iff_not] at h0
      exact ⟨h0.1, fun _ hu => h0.2 hu.symm⟩
    · exact ⟨h0, fun hxe => absurd hxe hne⟩
  have heb : bit s.rest e v := by unfold bit; rw [← has_eq]; exact heh
  have honly : ∀ x, bit s.rest x v → x = e := fun x hx => vcnt_one h1 (by rw [has_eq]; exact hx) heh
  refine ⟨fun t ht => ?_, fun x u hbx => h.sub x u (hsub x u hbx).1, fun x hx u hbx => ?_, fun x u hi x' hbx => ?_, fun x x' u hi hi' => ?_, fun x hx => ?_, fun x j hp => h.parR x j (parS_isolate.1 hp), fun x j j' hp hp' => h.par1 x j j' (parS_isolate.1 hp) (parS_isolate.1 hp'), ?_, h.alive, ?_, fun x j hp => ?_, fun x hx => ?_⟩
  · simp only [List.mem_append, List.mem_singleton] at ht
    rcases ht with ht | rfl
    · exact h.shape t ht
    · rw [hok.lrest] at hel; simp only; omega
  · rcases h.keep x hx u hbx with h4 | h4
    · by_cases hxe : x = e
      · subst hxe
        by_cases huv : u = v
        · exact .inr (isoS_isolate.2 (.inr ⟨rfl, huv⟩))
        · left
          unfold bit
          rw [List.getElem?_set_self hel]
          simp only [Option.getD_some]
          rw [hbits]
          have h4' : (s.rest[x]?.getD 0).testBit u = true := h4
          rw [h4']
          simp
          exact fun h => huv h.symm
      · exact .inl ((bit_set_ne hxe).2 h4)
    · exact .inr (isoS_isolate.2 (.inl h4))
  · have h5 := hsub x' u hbx
    rcases isoS_isolate.1 hi with h4 | ⟨rfl, rfl⟩
    · exact h.isoR x u h4 x' h5.1
    · exact h5.2 (honly x' h5.1) rfl
  · rcases isoS_isolate.1 hi with h4 | ⟨rfl, rfl⟩
    · rcases isoS_isolate.1 hi' with h5 | ⟨rfl, rfl⟩
      · exact h.iso1 x x' u h4 h5
      · exact absurd heb (h.isoR x u h4 x')
    · rcases isoS_isolate.1 hi' with h5 | ⟨rfl, _⟩
      · exact absurd heb (h.isoR x' u h5 x)
      · rfl
  · obtain ⟨j, hj, hvj⟩ := h.parD x hx
    exact ⟨j, parS_isolate.2 hj, fun u hbx => (hvj u hbx).imp id fun h => isoS_isolate.2 (.inl h)⟩
  · obtain ⟨D, hD1, hD2, hD3⟩ := h.ord
    exact ⟨D, hD1, hD2, fun x j hp => hD3 x j (parS_isolate.1 hp)⟩
  · simp only [buildPar_snoc, putPar]
    rw [if_neg (by omega)]; exact h.plen
  · simp only [buildPar_snoc, putPar]
    rw [if_neg (by omega)]; exact h.pAt x j (parS_isolate.1 hp)
  · simp only [buildPar_snoc, putPar]
    rw [if_neg (by omega)]; exact h.pNo x hx

theorem Snd.step {es : List Nat} {n : Nat} {s s' : Red} (h : Snd es s) (hok : RedOk es.length s) (hn : n ≤ 32) (hs : StepIs n s s') : Snd es s' := by
  cases hs with
  | absorb e i ha => exact h.absorb hok ha
  | isolate e v hno hv h1 hu he => exact h.isolate hok hn hv h1 he

theorem Snd.run {es : List Nat} {n : Nat} (hn : n ≤ 32) : ∀ f s, Snd es s → RedOk es.length s → Snd es (runF n f s)
  | 0, s, h, _ => h
  | f + 1, s, h, hok => by
    unfold runF
    cases hs : stepF n s with
    | none => exact h
    | some s' => exact Snd.run hn f s' (h.step hok hn (stepF_is hs)) ((stepF_is hs).ok hok hn).1

theorem reduce_snd {es : List Nat} {n : Nat} (hu : U32 es) (hn : n ≤ 32) (hm : 0 < es.length) : Snd es (reduceF n es) := Snd.run hn _ _ (Snd.start hm) (RedOk.start hu)

theorem rank_up {ps : List Int} {t : Nat → Nat} (hv : ∀ p ∈ ps, -1 ≤ p ∧ p < ps.length) (ht : ∀ e, e < ps.length → t e < ps.length) (hinc : ∀ e p : Nat, e < ps.length → par ps e = (p : Int) → t e < t p) :
    ∀ e, e < ps.length → up ps ps.length (e : Int) < 0 := by
  have key : ∀ (k e : Nat), e < ps.length → up ps k (e : Int) < 0 ∨ ∃ x : Nat, up ps k (e : Int) = (x : Int) ∧ x < ps.length ∧ t e + k ≤ t x := by
    intro k
    induction k with
    | zero => intro e he; exact .inr ⟨e, rfl, he, by omega⟩
    | succ k ih =>
      intro e he
      rw [up_succ he]
      have hpar : par ps e = ps[e] := by simp [par, he]
      have hb := hv ps[e] (List.getElem_mem he)
      by_cases hneg : par ps e < 0
      · exact .inl (by rw [up_neg hneg]; exact hneg)
      · obtain ⟨p, hp⟩ := Int.eq_ofNat_of_zero_le (show 0 ≤ par ps e by omega)
        have h1 := hinc e p he hp
        rw [hp]
        rcases ih p (by omega) with h2 | ⟨x, h2, h3, h4⟩
        · exact .inl h2
        · exact .inr ⟨x, h2, h3, by omega⟩
  intro e he
  rcases key ps.length e he with h | ⟨x, _, h2, h3⟩
  · exact h
  · have := ht x h2; omega

theorem countP_list (l : List Int) (p : Int → Bool) (d : Int) : l.countP p = (List.range l.length).countP fun i => p (l[i]?.getD d) := by
  have h : l = (List.range l.length).map fun i => l[i]?.getD d := by
    apply List.ext_getElem
    · simp
    · intro i h1 h2
      simp [h1]
  conv => lhs; rw [h]
  rw [List.countP_map]
  rfl

theorem gyo_sound {es : List Nat} {n : Nat} (hk : hgCheckF n es = 0) (hm : 0 < es.length) (hz : (reduceF n es).rest.all (fun z => z == 0) = true) :
    (buildPar es.length (reduceF n es).steps).length = es.length ∧ chkF n es (buildPar es.length (reduceF n es).steps) = 0 := by
  obtain ⟨n', hn', hn32, _, hN⟩ := hgCheckF_zero hk
  obtain rfl : n = n' := by omega
  have hu : U32 es := fun e he => by
    have := hN e he
    have : 2 ^ n ≤ 2 ^ 32 := Nat.pow_le_pow_right (by omega) hn32
    omega
  have hS := reduce_snd hu hn32 hm
  have hok := reduceF_ok hu hn32
  have hend := reduceF_end hu hn32
  generalize reduceF n es = s at *
  have hzero : ∀ e : Nat, s.rest[e]?.getD 0 = 0 := fun e => by
    by_cases he : e < s.rest.length
    · rw [List.all_eq_true] at hz
      have := hz s.rest[e] (List.getElem_mem he)
      simp [he]
      simpa using this
    · simp [List.getElem?_eq_none (Nat.le_of_not_lt he)]
  have hno : NoAbsorb s.rest s.rem := by
    intro e he i hi
    cases ha : absorbF s.rest s.rem with
    | none =>
      unfold absorbF at ha
      rw [List.findSome?_eq_none_iff] at ha
      have h3 := ha e (List.mem_range.2 he)
      rw [Option.map_eq_none_iff, List.find?_eq_none] at h3
      simpa using h3 i (List.mem_range.2 hi)
    | some p => unfold stepF at hend; rw [ha] at hend; simp at hend
  have hone : ∀ e i : Nat, s.rem[e]? = some false → s.rem[i]? = some false → e = i := by
    intro e i he hi
    refine Classical.byContradiction fun hne => ?_
    have hel := (List.getElem?_eq_some_iff.1 he).1
    have hil := (List.getElem?_eq_some_iff.1 hi).1
    rw [hok.lrem, ← hok.lrest] at hel hil
    have h1 := hno e hel i hil
    have h2 : absorbs s.rest s.rem e i = true := by
      unfold absorbs
      rw [he, hi, hzero e, hzero i]
      simp [hne, dif]
    rw [h2] at h1
    cases h1
  obtain ⟨r, hr⟩ := hS.alive
  have hpl := hS.plen
  have hcase : ∀ e, e < es.length → (e = r ∧ s.rem[e]? = some false) ∨ (e ≠ r ∧ s.rem[e]? = some true) := by
    intro e he
    have hl : e < s.rem.length := by rw [hok.lrem]; exact he
    cases hb : s.rem[e] with
    | false => left; have h1 : s.rem[e]? = some false := by rw [List.getElem?_eq_getElem hl, hb]
               exact ⟨hone e r h1 hr, h1⟩
    | true => right; have h1 : s.rem[e]? = some true := by rw [List.getElem?_eq_getElem hl, hb]
              exact ⟨fun h => by subst h; rw [hr] at h1; simp at h1, h1⟩
  have hrl : r < es.length := by have := (List.getElem?_eq_some_iff.1 hr).1; rw [hok.lrem] at this; exact this
  have hval : ∀ e, e < es.length → (e = r ∧ (buildPar es.length s.steps)[e]? = some (-1)) ∨ (e ≠ r ∧ ∃ i : Nat, i < es.length ∧ (buildPar es.length s.steps)[e]? = some (i : Int) ∧ parS s.steps e i) := by
    intro e he
    rcases hcase e he with ⟨h1, h2⟩ | ⟨h1, h2⟩
    · exact .inl ⟨h1, hS.pNo e h2⟩
    · obtain ⟨i, hi, _⟩ := hS.parD e h2
      have hsh := hS.shape _ hi
      exact .inr ⟨h1, i, by simp only at hsh; omega, hS.pAt e i hi, hi⟩
  generalize hps : buildPar es.length s.steps = ps at *
  have hvalid : ∀ p ∈ ps, -1 ≤ p ∧ p < ps.length := by
    intro p hp
    obtain ⟨e, he, rfl⟩ := List.getElem_of_mem hp
    rcases hval e (by omega) with ⟨_, h2⟩ | ⟨_, i, h2, h3, _⟩
    · rw [List.getElem?_eq_getElem he] at h2; injection h2 with h2; omega
    · rw [List.getElem?_eq_getElem he] at h3; injection h3 with h3; omega
  have hroots : rootsF ps = 1 := by
    unfold rootsF
    rw [countP_list ps _ 0]
    have hle := (countP_le_one (fun i => decide (ps[i]?.getD 0 < 0)) ps.length).2 (by
      rintro i j hij hj ⟨h1, h2⟩
      have a1 : i = r := by
        rcases hval i (by omega) with ⟨h3, _⟩ | ⟨_, q, _, h3, _⟩
        · exact h3
        · rw [h3] at h1; simp at h1; omega
      have a2 : j = r := by
        rcases hval j (by omega) with ⟨h3, _⟩ | ⟨_, q, _, h3, _⟩
        · exact h3
        · rw [h3] at h2; simp at h2; omega
      omega)
    have hge : 0 < (List.range ps.length).countP (fun i => decide (ps[i]?.getD 0 < 0)) := by
      rw [List.countP_pos_iff]
      refine ⟨r, List.mem_range.2 (by omega), ?_⟩
      rcases hval r hrl with ⟨_, h3⟩ | ⟨h3, _⟩
      · rw [h3]; simp
      · exact absurd rfl h3
    omega
  have hup : ∀ e, e < ps.length → up ps ps.length (e : Int) < 0 := by
    obtain ⟨D, hD1, hD2, hD3⟩ := hS.ord
    have hDl : D.length < ps.length := by
      have hrD : r ∉ D := fun hm => by have := (hD2 r).1 hm; rw [hr] at this; simp at this
      have h1 : (r :: D).Nodup := List.nodup_cons.2 ⟨hrD, hD1⟩
      have h2 := nodup_le (m := List.range ps.length) h1 fun x hx => by
        simp at hx; rcases hx with rfl | hx
        · exact List.mem_range.2 (by omega)
        · have := (List.getElem?_eq_some_iff.1 ((hD2 x).1 hx)).1
          rw [hok.lrem] at this
          exact List.mem_range.2 (by omega)
      simp at h2; omega
    refine rank_up (t := fun e => D.idxOf e) hvalid (fun e _ => ?_) (fun e p he hp => ?_)
    · have : D.idxOf e ≤ D.length := List.idxOf_le_length
      omega
    · rcases hval e (by omega) with ⟨_, h3⟩ | ⟨_, i, _, h3, h4⟩
      · unfold par at hp; rw [h3] at hp; simp at hp
      · unfold par at hp; rw [h3] at hp
        simp at hp
        have : i = p := by omega
        subst this
        exact hD3 e i h4
  have hrooted : rootedB ps = true := rootedB_true hvalid hroots hup
  refine ⟨hpl, chkF_ok hk hpl hrooted ?_⟩
  rw [topsOk_iff]
  have htop : ∀ v e, e < es.length → (topF es ps e).testBit v = true → isoS s.steps e v := by
    intro v e he ht
    rw [topF_bit hu hpl hvalid he, Bool.and_eq_true, has_eq] at ht
    obtain ⟨ht1, ht2⟩ := ht
    rcases hcase e he with ⟨_, h2⟩ | ⟨_, h2⟩
    · rcases hS.keep e h2 v ht1 with h3 | h3
      · unfold bit at h3; rw [hzero e] at h3; simp at h3
      · exact h3
    · obtain ⟨i, hi, hvi⟩ := hS.parD e h2
      rcases hvi v ht1 with h3 | h3
      · exfalso
        have h4 := hS.pAt e i hi
        rw [hps] at h4
        rw [h4] at ht2
        simp only [Option.getD_some, Int.toNat_natCast, Bool.not_eq_true', Bool.and_eq_false_iff, decide_eq_false_iff_not] at ht2
        rcases ht2 with h5 | h5
        · omega
        · rw [has_eq] at h5
          unfold bit at h3
          rw [h3] at h5
          cases h5
      · exact h3
  rintro v i j hij hj ⟨h1, h2⟩
  have := hS.iso1 i j v (htop v i (by omega) h1) (htop v j hj h2)
  omega

end Go.Proofs.YthgaflmldbgbnaaGreatDoor.JT
end
namespace Go.Proofs.YthgaflmldbgbnaaGreatDoor
end Go.Proofs.YthgaflmldbgbnaaGreatDoor
section
namespace Go.Proofs.YthgaflmldbgbnaaGreatDoor.JT

/-! ### A join tree gives such a listing: the order of its nodes -/
theorem up_pos_order {ps : List Int} {D : List Nat} (h : Greedy ps D) (hv : ∀ p ∈ ps, -1 ≤ p ∧ p < ps.length) (hall : ∀ u, u < ps.length → u ∈ D) {k z t : Nat} (hz : z < ps.length) (ht : up ps k (z : Int) = (t : Int)) : D.idxOf z ≤ D.idxOf t := by
  obtain ⟨i, hi, hiz⟩ := List.getElem_of_mem (hall z hz)
  have hii : D.idxOf z = i := by rw [← hiz]; exact h.nodup.idxOf_getElem i hi
  rcases whole_up h hv hall k i z (by rw [List.getElem?_eq_getElem hi, hiz]) with h1 | ⟨j, x, h1, h2, h3⟩
  · omega
  · have hx : x = t := by omega
    subst hx
    obtain ⟨hj, hjx⟩ := List.getElem?_eq_some_iff.1 h1
    have : D.idxOf x = j := by rw [← hjx]; exact h.nodup.idxOf_getElem j hj
    omega

end Go.Proofs.YthgaflmldbgbnaaGreatDoor.JT
end
namespace Go.Proofs.YthgaflmldbgbnaaGreatDoor
end Go.Proofs.YthgaflmldbgbnaaGreatDoor
section
namespace Go.Proofs.YthgaflmldbgbnaaGreatDoor.JT

def PRip (ps : List Int) (F : Nat → Nat → Prop) : List Nat → Prop
  | [] => True
  | h :: t => ((t = [] ∧ par ps h < 0) ∨ ∃ p : Nat, p ∈ t ∧ par ps h = (p : Int) ∧ ∀ v, F h v → (∃ z ∈ t, F z v) → F p v) ∧ PRip ps F t

theorem order_rip {es : List Nat} {ps : List Int} {N : Int} (hk : chkF N es ps = 0) : ps.length = es.length ∧ 0 < es.length ∧ (orderF ps).Nodup ∧ (∀ u, u ∈ orderF ps ↔ u < ps.length) ∧ PRip ps (bit es) (orderF ps) := by
  have hg : hgCheckF N es = 0 := by
    refine Classical.byContradiction fun h => ?_
    rw [chkF_hg h] at hk; exact h hk
  have hl : ps.length = es.length := by
    refine Classical.byContradiction fun h => ?_
    rw [chkF_len hg h] at hk; omega
  have hr : rootedB ps = true := by
    cases h : rootedB ps with
    | true => rfl
    | false => rw [chkF_root hg hl h] at hk; omega
  have ht : TopsOk es ps := by
    refine Classical.byContradiction fun h => ?_
    rw [chkF_tops hg hl hr h] at hk; omega
  obtain ⟨n, rfl, hn, _, hN⟩ := hgCheckF_zero hg
  have hu : U32 es := fun e he => by
    have := hN e he
    have : 2 ^ n ≤ 2 ^ 32 := Nat.pow_le_pow_right (by omega) hn
    omega
  obtain ⟨hv, hroots, hup⟩ := rooted_parts hr
  have hpos := rooted_pos hr
  have hO := orderF_is ps
  have hwh := (order_whole hv).2 hup
  generalize orderF ps = D at *
  have hall : ∀ u, u < ps.length → u ∈ D := by
    intro u hu
    refine Classical.byContradiction fun hn => ?_
    have h1 : (u :: D).Nodup := List.nodup_cons.2 ⟨hn, hO.1.nodup⟩
    have h2 := nodup_le (m := List.range ps.length) h1 fun x hx => by
      simp at hx; rcases hx with rfl | hx
      · exact List.mem_range.2 hu
      · exact List.mem_range.2 (hO.1.lt hx)
    simp at h2; omega
  rw [topsOk_iff] at ht
  have hlink : ∀ h p v : Nat, h < es.length → ps[h]?.getD 0 = (p : Int) → bit es h v → ¬ bit es p v → (topF es ps h).testBit v = true := by
    intro h p v hh hp hb hnb
    rw [topF_bit hu hl hv hh, hp]
    unfold bit at hb hnb
    simp only [Int.toNat_natCast]
    rw [has_eq, has_eq, hb]
    cases hc : (es[p]?.getD 0).testBit v with
    | true => exact absurd hc hnb
    | false => simp
  -- climbing from a node that holds v one comes to a top of v
  have hclimb : ∀ v k (z : Nat), z < es.length → bit es z v → (∃ t k' : Nat, t < es.length ∧ up ps k' (z : Int) = (t : Int) ∧ (topF es ps t).testBit v = true) ∨ (∃ t : Nat, t < es.length ∧ up ps k (z : Int) = (t : Int) ∧ bit es t v) := by
    intro v k
    induction k with
    | zero => intro z hz hb; exact .inr ⟨z, hz, rfl, hb⟩
    | succ k ih =>
      intro z hz hb
      cases htop : (topF es ps z).testBit v with
      | true => exact .inl ⟨z, 0, hz, rfl, htop⟩
      | false =>
        have htop' := htop
        rw [topF_bit hu hl hv hz, has_eq, has_eq] at htop'
        unfold bit at hb
        rw [hb] at htop'
        simp at htop'
        obtain ⟨hp0, hpb⟩ := htop'
        have hzl : z < ps.length := by omega
        have hpz : ps[z]?.getD 0 = ps[z] := by simp [hzl]
        rw [hpz] at hp0 hpb
        have hvz := hv ps[z] (List.getElem_mem hzl)
        obtain ⟨q, hq⟩ := Int.eq_ofNat_of_zero_le hp0
        rw [hq] at hpb
        simp at hpb
        have hup1 : ∀ j, up ps (j + 1) (z : Int) = up ps j (q : Int) := fun j => by
          rw [up_succ hzl, show par ps z = ps[z] by simp [par, hzl], hq]
        rcases ih q (by omega) hpb with ⟨t, k', h1, h2, h3⟩ | ⟨t, h1, h2, h3⟩
        · exact .inl ⟨t, k' + 1, h1, by rw [hup1]; exact h2, h3⟩
        · exact .inr ⟨t, h1, by rw [hup1]; exact h2, h3⟩
  have htopOf : ∀ v (z : Nat), z < es.length → bit es z v → ∃ t k' : Nat, t < es.length ∧ up ps k' (z : Int) = (t : Int) ∧ (topF es ps t).testBit v = true := by
    intro v z hz hb
    rcases hclimb v ps.length z hz hb with h | ⟨t, _, h2, _⟩
    · exact h
    · have := hup z (by omega); omega
  refine ⟨hl, by omega, hO.1.nodup, fun u => ⟨fun h => hO.1.lt h, hall u⟩, ?_⟩
  · have hsuf : ∀ (l : List Nat) (pre : List Nat), pre ++ l = D → PRip ps (bit es) l := by
      intro l
      induction l with
      | nil => intro _ _; trivial
      | cons h t ih =>
        intro pre hpre
        refine ⟨?_, ih (pre ++ [h]) (by rw [← hpre]; simp)⟩
        have hhD : h ∈ D := by rw [← hpre]; simp
        have hhl : h < ps.length := hO.1.lt hhD
        have hnd := hO.1.nodup
        have hafter : ∀ z ∈ t, D.idxOf h < D.idxOf z := by
          intro z hz
          have hnd2 := hnd
          rw [← hpre, List.nodup_append] at hnd2
          obtain ⟨_, n2, n3⟩ := hnd2
          rw [List.nodup_cons] at n2
          have hhp : h ∉ pre := fun hm => n3 h hm h (by simp) rfl
          have hzp : z ∉ pre := fun hm => n3 z hm z (by simp [hz]) rfl
          have hzh : z ≠ h := fun e => n2.1 (e ▸ hz)
          rw [← hpre, List.idxOf_append, if_neg hhp, List.idxOf_append, if_neg hzp, List.idxOf_cons_self]
          have hb : (h == z) = false := by simpa using fun e => hzh e.symm
          simp [List.idxOf_cons, hb]
        have hph : ps[h]?.getD 0 = ps[h] := by simp [hhl]
        have hvh := hv ps[h] (List.getElem_mem hhl)
        -- h is no root: the root comes last
        have hnr : ps[h] < 0 → t = [] := by
          intro hneg
          refine Classical.byContradiction fun hne => ?_
          obtain ⟨t0, ht0⟩ := List.exists_mem_of_ne_nil t hne
          have ht0D : t0 ∈ D := by rw [← hpre]; simp [ht0]
          have ht0l := hO.1.lt ht0D
          -- climbing from t0 one comes to a root; there is only one
          have hroot : ∃ k r : Nat, r < ps.length ∧ up ps k (t0 : Int) = (r : Int) ∧ par ps r < 0 := by
            have hgen : ∀ k (z : Nat), z < ps.length → up ps k (z : Int) < 0 → ∃ k' r : Nat, r < ps.length ∧ up ps k' (z : Int) = (r : Int) ∧ par ps r < 0 := by
              intro k
              induction k with
              | zero => intro z _ h; simp [up] at h; omega
              | succ k ihk =>
                intro z hz h
                by_cases hp : par ps z < 0
                · exact ⟨0, z, hz, rfl, hp⟩
                · rw [up_succ hz] at h
                  obtain ⟨q, hq⟩ := Int.eq_ofNat_of_zero_le (show 0 ≤ par ps z by omega)
                  have hvz := hv ps[z] (List.getElem_mem hz)
                  have hpz : par ps z = ps[z] := by simp [par, hz]
                  rw [hq] at h
                  obtain ⟨k', r, a, b, c⟩ := ihk q (by omega) h
                  exact ⟨k' + 1, r, a, by rw [up_succ hz, hq]; exact b, c⟩
            exact hgen ps.length t0 ht0l (hup t0 ht0l)
          obtain ⟨k, r, hrl, hkr, hrneg⟩ := hroot
          have hrh : r = h := by
            have hle := (countP_le_one (fun i => decide (ps[i]?.getD 0 < 0)) ps.length).1 (by
              have := hroots
              unfold rootsF at this
              rw [countP_list ps _ 0] at this
              omega)
            have hr1 : ps[r]?.getD 0 < 0 := by simp [par, hrl] at hrneg; simp [hrl]; exact hrneg
            have hh1 : ps[h]?.getD 0 < 0 := by rw [hph]; exact hneg
            rcases Nat.lt_trichotomy r h with hlt | heq | hgt
            · exact absurd ⟨by simpa using hr1, by simpa using hh1⟩ (hle r h hlt hhl)
            · exact heq
            · exact absurd ⟨by simpa using hh1, by simpa using hr1⟩ (hle h r hgt hrl)
          have h1 := up_pos_order hO.1 hv hall ht0l hkr
          have h2 := hafter t0 ht0
          rw [hrh] at h1
          omega
        by_cases hneg : ps[h] < 0
        · exact .inl ⟨hnr hneg, by simp [par, hhl]; exact hneg⟩
        right
        obtain ⟨p, hp⟩ := Int.eq_ofNat_of_zero_le (show 0 ≤ ps[h] by omega)
        have hpl : p < ps.length := by omega
        have hpt : p ∈ t := by
          have hpD := hall p hpl
          have hlt : D.idxOf h < D.idxOf p := by
            have hnd2 := hO.1.nodup
            obtain ⟨i, hi, hih⟩ := List.getElem_of_mem hhD
            obtain ⟨j, hj, hjp⟩ := List.getElem_of_mem hpD
            have e1 : D.idxOf h = i := by rw [← hih]; exact hnd2.idxOf_getElem i hi
            have e2 : D.idxOf p = j := by rw [← hjp]; exact hnd2.idxOf_getElem j hj
            have hin := hO.1.after hhl (show par ps h = (p : Int) by simp [par, hhl, hp]) (show D[j]? = some p by rw [List.getElem?_eq_getElem hj, hjp])
            rw [List.mem_take_iff_getElem] at hin
            obtain ⟨i', hi', he⟩ := hin
            have : D.idxOf h = i' := by rw [← he]; exact hnd2.idxOf_getElem i' (by omega)
            omega
          rw [← hpre] at hpD
          simp only [List.mem_append, List.mem_cons] at hpD
          rcases hpD with h1 | h1 | h1
          · exfalso
            have hnd2 := hnd
            rw [← hpre, List.nodup_append] at hnd2
            have hhp : h ∉ pre := fun hm => hnd2.2.2 h hm h (by simp) rfl
            rw [← hpre, List.idxOf_append, if_neg hhp, List.idxOf_append, if_pos h1] at hlt
            have := List.idxOf_lt_length_of_mem h1
            omega
          · rw [h1] at hlt; omega
          · exact h1
        refine ⟨p, hpt, by simp [par, hhl]; exact hp, fun v hhv hz => ?_⟩
        obtain ⟨z, hz, hzv⟩ := hz
        refine Classical.byContradiction fun hnp => ?_
        have htoph := hlink h p v (by omega) (by rw [hph]; exact hp) hhv hnp
        have hzD : z ∈ D := by rw [← hpre]; simp [hz]
        have hzl := hO.1.lt hzD
        obtain ⟨t', k', h1, h2, h3⟩ := htopOf v z (by omega) hzv
        have hth : t' = h := by
          rcases Nat.lt_trichotomy t' h with hlt | heq | hgt
          · exact absurd ⟨h3, htoph⟩ (ht v t' h hlt (by omega))
          · exact heq
          · exact absurd ⟨htoph, h3⟩ (ht v h t' hgt (by omega))
        have h4 := up_pos_order hO.1 hv hall hzl h2
        have h5 := hafter z hz
        rw [hth] at h4
        omega
    exact hsuf D [] rfl

end Go.Proofs.YthgaflmldbgbnaaGreatDoor.JT
end
namespace Go.Proofs.YthgaflmldbgbnaaGreatDoor
end Go.Proofs.YthgaflmldbgbnaaGreatDoor

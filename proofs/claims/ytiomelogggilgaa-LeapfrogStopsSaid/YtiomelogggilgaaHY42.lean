/- Walk: LeapfrogStops. -/
import Derived.Test.YtiomelogggilgaaHY35
import Derived.Test.YtiomelogggilgaaHY38
namespace Go.Proofs.Ytiomelogggilgaa
open Go.RowKit Go.Sort

/-- A row of n values that may be overwritten. -/
def WrR (w : World) (A : Option Addr) (n : Nat) : Prop :=
  n ≠ 0 → ∃ b o, A = some ⟨b, o, none⟩ ∧ b < w.heap.size ∧ ∀ j, j < n * 3 → (∃ v, w.cell? ⟨b, o + j, none⟩ = some v) ∧ w.frozen? ⟨b, o + j, none⟩ = false
theorem WrR.set {w : World} {A : Option Addr} {n : Nat} (h : WrR w A n) (p : Addr) (u : Value) : WrR (w.setCell p u) A n := fun hn => by
  obtain ⟨b, o, e, hb, h3⟩ := h hn
  refine ⟨b, o, e, by simpa using hb, fun j hj => ⟨?_, by rw [World.frozen?_setCell]; exact (h3 j hj).2⟩⟩
  obtain ⟨v, hv⟩ := (h3 j hj).1
  by_cases e : p = ⟨b, o + j, none⟩
  · subst e; exact ⟨u, World.cell?_setCell_same _ _ _ hv⟩
  · exact ⟨v, (World.cell?_setCell_other _ _ _ _ (fun e2 => e e2)).trans hv⟩
theorem WrR.of {w w' : World} {A : Option Addr} {x : RL.R} {F : Nat → Prop} (h : SlR w.heap.size w A x) (hf : ∀ ad, A = some ad → ∀ o, w.frozen? ⟨ad.block, o, none⟩ = false) (hc : Chg F w w') (hn : ∀ ad, A = some ad → ¬ F ad.block) : WrR w' A x.length := fun h0 => by
  have hne : rcells x ≠ [] := fun e => h0 (by have := congrArg List.length e; rw [rcells_length] at this; simp at this; omega)
  obtain ⟨b, o, rfl, hb, hcl⟩ := h hne
  refine ⟨b, o, rfl, Nat.lt_of_lt_of_le hb hc.size, fun j hj => ⟨?_, (hc.frozen (p := ⟨b, o + j, none⟩) hb (hn ⟨b, o, none⟩ rfl)).trans (hf ⟨b, o, none⟩ rfl _)⟩⟩
  have hj2 : j < (rcells x).length := by rw [rcells_length]; exact hj
  exact ⟨_, (hc.cell (p := ⟨b, o + j, none⟩) hb (hn ⟨b, o, none⟩ rfl)).trans (hcl j _ (List.getElem?_eq_getElem hj2))⟩
/-- The blocks of the first i rows. -/
def FZ (hs : List Value) (i : Nat) (b : Nat) : Prop := ∃ j u, j < i ∧ hs[j]? = some u ∧ u.ownBlock = some b
section
variable {gb B : Nat} {L : List RL.R} {O : Nat → Prop} {w w' : World} {v : Value} {hs : List Value} {i : Nat}
/-- What is still readable when the first i rows have been overwritten. -/
theorem ColM.box (h : ColM gb B L O w v hs) (hc : Chg (FZ hs i) w w') : Row w' gb 32 [v] := h.row.chg hc fun ⟨j, u, _, h2, h3⟩ => (h.blk j u gb h2 h3).2.1 rfl
theorem ColM.hdr (h : ColM gb B L O w v hs) (hc : Chg (FZ hs i) w w') {b k : Nat} {C : Nat} (hv : v = .slice (some ⟨b, 0, none⟩) L.length C) (hk : k < L.length) : ∃ A' C', hs[k]? = some (.slice A' L[k].length C') ∧ w'.cell? ⟨b, k, none⟩ = some (.slice A' L[k].length C') ∧ b < w.heap.size ∧ L[k].length ≤ C' ∧ C' ≤ 9223372036854775807 := by
  obtain ⟨A', C', h1, h2, h3, _⟩ := h.el k hk
  obtain ⟨A2, C2, e, _, _, hcl⟩ := own_slice h.own (by decide)
  rw [hv] at e
  injection e with e1 _ _
  subst e1
  obtain ⟨b', e2, hb', hcells⟩ := hcl (by intro e; rw [e] at h1; simp at h1)
  injection e2 with e2
  injection e2 with e2
  subst e2
  refine ⟨A', C', h1, (hc.cell (p := ⟨b, k, none⟩) hb' fun ⟨j, u, _, g2, g3⟩ => ?_).trans (hcells k _ h1), hb', h2, h3⟩
  exact (h.blk j u b g2 g3).2.2 (by rw [hv]; rfl)
theorem ColM.rows (h : ColM gb B L O w v hs) (hc : Chg (FZ hs i) w w') {b C : Nat} (hv : v = .slice (some ⟨b, 0, none⟩) L.length C) : SlRs w'.heap.size w' (some ⟨b, i, none⟩) (L.drop i) := fun _ => by
  have hz := hc.size
  by_cases hil : i < L.length
  · obtain ⟨_, _, _, _, hb, _, _⟩ := h.hdr hc hv hil
    refine ⟨b, i, rfl, by omega, fun j hj => ?_⟩
    have hj2 : i + j < L.length := by simp at hj; omega
    obtain ⟨A', C', h1, h2, _, h3, h4⟩ := h.hdr hc hv hj2
    obtain ⟨A2, C2, g1, _, _, g4⟩ := h.el (i + j) hj2
    rw [h1] at g1
    injection g1 with g1
    injection g1 with g1 _ g3
    subst g1 g3
    rw [List.getElem_drop]
    refine ⟨A', C', h2, h3, h4, ?_⟩
    refine (Sl.chg g4 hc (Nat.le_refl _) fun ad e => ?_).more hz
    rintro ⟨j', u, q1, q2, q3⟩
    exact h.sep j' (i + j) u _ ad.block q2 h1 (by omega) q3 (by rw [e]; rfl)
  · rename_i hne
    exact absurd (List.drop_eq_nil_of_le (by omega)) hne
theorem FZ.succ {u : Value} (hu : hs[i]? = some u) {a b c : World} (h : Chg (FZ hs i) a b) (k : Chg (fun x => u.ownBlock = some x) b c) : Chg (FZ hs (i + 1)) a c :=
  (h.mono fun x _ ⟨j, u', h1, h2, h3⟩ => ⟨j, u', by omega, h2, h3⟩).then k fun x _ hx => ⟨i, u, by omega, hu, hx⟩
end

theorem eachS_any (n : Int) (AA : Option Addr) (AC : Nat) (X : List RA) (uf : Nat) (ucap : Array Value) (go : List RL.R → Bool) (Inv : List RL.R → (Nat → Prop) → World → Prop) (hU : YieldC uf ucap go Inv 1000000000 64) (O0 : Nat → Prop) (w : World) (hA : AtsM w.heap.size w AA X) (hXl : X.length ≤ 9223372036854775807)
    (hX : ∀ a ∈ X, Small a) (hn : errA n X = 0 → n ≤ 9) (hI : Inv [] O0 w) (hO : ∀ b, O0 b → b < w.heap.size) :
    Calls Try.prog 12 #[.int .i64 n, .func (.func uf) #[] ucap, .slice AA X.length AC] w (EachPost n X go Inv [] O0 w) := by
  by_cases he : errA n X = 0
  · obtain ⟨m, rfl, hg⟩ := Good0.of hX he
    have hm : m < 10 := by have := hn he; omega
    exact lfEach_any (m : Int) AA AC X uf ucap go Inv 1000000000 4 hU [] O0 w hA hXl (vls hX) (fun a ha => (hX a ha).rel (hg.ok a ha)) (fun _ => cost9 m hm) hI hO (fun _ => by
      have := hg.len
      have := pow4_9 (m := m) (by omega)
      rw [Int.toNat_natCast, List.length_nil]; omega)
  · exact lfEach_any n AA AC X uf ucap go Inv 1000000000 60000 hU [] O0 w hA hXl (vls hX) (fun a ha => (hX a ha).rel0) (fun h => absurd h he) hI hO (fun h => absurd h he)
theorem refSP_any {m : Nat} {X : List RA} (hg : Good0 m X) (hm : m ≤ 8) (A : Option Addr) (C : Nat) (w : World) (hr : AtsR w.heap.size w A X) :
    Calls Try.prog 15 #[.int .i64 m, .slice none 0 0, .slice A X.length C] w fun e w' => ∃ B D, e = .returned (.slice B (joinF m (X.map RA.at)).length D) ∧ (joinF m (X.map RA.at)).length ≤ D ∧ D ≤ 9223372036854775807 ∧ SlRsP (fun b => w.heap.size ≤ b) w'.heap.size w' B (joinF m (X.map RA.at)) ∧ Below w.heap.size w w' :=
  (r35Join_any m C A X hm (Nat.le_trans hg.many (by omega)) (fun a ha => (hg.sm a ha).ref (hg.ok a ha)) hg.at (fun v => Nat.le_trans (valsF_four hg.sm hg.ok v) (by omega)) m [] none 0 w (by simp) ⟨by simp, fun v hv => by simp at hv⟩ hr SlR.nil (Nat.le_refl _) (by omega)).mono fun e w' h => by
    unfold RJPost at h
    rw [hg.refJ] at h
    obtain ⟨⟨B, D, he, h1, h2, h3⟩, hb⟩ := h
    exact ⟨B, D, he, h1, h2, h3.weak (fun b _ hb => hb.elim id fun ⟨ad, e, _⟩ => (by cases e)), hb⟩

set_option maxHeartbeats 8000000 in
set_option maxRecDepth 100000 in
theorem l35Stops_any (a0 t0 : Nat) (h0 : a0 < 256) (ht0 : t0 < 256) (A : Option Addr) (C : Nat) (l : List LA) (w : World) (hA : AtsL w.heap.size w A l) (hB : LBytes l) (hl : l.length ≤ 3518437208780) :
    Calls Try.prog 3 #[.int .u8 a0, .slice A l.length C, .int .u8 t0] w fun e w' => e = .returned (.bool true) ∧ Below w.heap.size w w' := by
  obtain ⟨W0, hW0⟩ : ∃ W0, W0 = w.alloc (.cells #[.int .u8 (t0 : Nat)] 5) := ⟨_, rfl⟩
  have hr0 : Row W0 w.heap.size 5 [.int .u8 (t0 : Nat)] := by rw [hW0]; exact Row.new w 5 _
  have hx0 : Ext w W0 := by rw [hW0]; exact (Ext.refl w).alloc _
  have HMK := Lib.hid (l35Made2 A C l W0 (by
    intro hn
    obtain ⟨b, o, e, hb, hc⟩ := hA hn
    refine ⟨b, o, e, Nat.lt_of_lt_of_le hb hx0.size, fun i hi => ?_⟩
    obtain ⟨RA, RC, h1, h2, h3, h4⟩ := hc i hi
    exact ⟨RA, RC, (hx0.cell hb).trans h1, (hx0.cell hb).trans h2, (hx0.cell hb).trans h3, (h4.keep fun p hp => hx0.below.cell hp).more hx0.size⟩) hB hl)
  have HR0 := Lib.hid hr0
  have HX0 := Lib.hid hx0
  have hzw := hr0.lt
  clear hA hB hl hr0 hx0
  obtain ⟨m, hm⟩ : ∃ m : Nat, (a0 : Int) % 9 = (m : Int) := ⟨a0 % 9, by omega⟩
  have hm8 : m ≤ 8 := by omega
  have HM := Lib.hid hm
  clear hm
  go_enter Try.func3, Try.ntmps3
  go_wp2_with fail
  rw [← hW0]
  clear hW0
  refine HMK.out.mono ?_
  rintro e w1 ⟨hb1, rfl | ⟨X, A1, A2, A3, C1, C2, C3, rfl, hX, hc1, hd1, ha, hr, hz⟩⟩
  · have hb1 := Below.then HX0.out.below hb1 HX0.out.size
    clear HMK
    go_wp2_with fail
    refine (l35awake_any _).mono ?_
    rintro e w2 ⟨rfl, hb2⟩
    have hbw := Below.then hb1 hb2 hb1.size
    clear hb1 hb2
    go_wp2
    go_ret
    exact ⟨rfl, hbw⟩
  have HB1 := Lib.hid (Below.then HX0.out.below hb1 HX0.out.size)
  by_cases h6 : X.length ≤ 6
  rotate_left
  · rw [decide_eq_false h6]
    clear HMK hX hc1 hd1 ha hb1 hr hz
    go_wp2_with fail
    refine (l35awake_any _).mono ?_
    rintro e w2 ⟨rfl, hb2⟩
    have hbw := Below.then HB1.out hb2 HB1.out.size
    clear hb2
    go_wp2
    go_ret
    exact ⟨rfl, hbw⟩
  rw [decide_eq_true h6]
  obtain ⟨z, hzz⟩ : ∃ z, z = if errA m X = 0 then 1 else errA m X := ⟨_, rfl⟩
  have HN := Lib.hid (lfEachNil_z z m A1 C1 X w1 ha (by omega) (vls hX) hzz)
  have HZZ := Lib.hid hzz
  have HX := Lib.hid hX
  have HA := Lib.hid ha
  have HR := Lib.hid hr
  have HZ := Lib.hid hz
  have HR1 := Lib.hid (HR0.out.up hb1)
  have hmb1 := (HR0.out.up hb1).lt
  clear HMK hX ha hb1 hr hz hzz
  go_wp2_with fail
  rw [HM.out]
  refine HN.out.mono ?_
  rintro e w2 ⟨rfl, hb2⟩
  obtain ⟨W3, hW3⟩ : ∃ W3, W3 = w2.alloc (.cells #[.slice none 0 0] 32) := ⟨_, rfl⟩
  have hr3 : Row W3 w2.heap.size 32 [.slice none 0 0] := by rw [hW3]; exact Row.new w2 32 _
  have hx3 : Ext w2 W3 := by rw [hW3]; exact (Ext.refl w2).alloc _
  have hz3 := hr3.lt
  have hmb2 : w.heap.size < w2.heap.size := Nat.lt_of_lt_of_le hmb1 hb2.size
  have hbx : Below w1.heap.size w1 W3 := Below.then hb2 hx3.below hb2.size
  have hrm3 := HR1.out.up hbx
  have HEA := Lib.hid (eachS_any m A1 C1 X 13 #[.pointer (some ⟨w2.heap.size, 0, none⟩), .pointer (some ⟨w.heap.size, 0, none⟩)] (fun l => decide (l.length < t0 % 10 + 1)) (StopI w2.heap.size W3.heap.size w.heap.size t0) (stops1_yield w2.heap.size W3.heap.size w.heap.size t0 64 ht0) (fun b => b = w2.heap.size ∨ b = w.heap.size) W3 (HA.out.upB hbx) (by omega) HX.out (fun _ => by omega)
    ⟨fun b => b = w2.heap.size, ⟨.slice none 0 0, [], ⟨hr3, own_nil _ _ _ _, hz3, fun i hi => absurd hi (by simp), fun i u b hu => (by simp at hu), fun i j u u' b hu => (by simp at hu), rfl, fun b hb => (by cases hb), Nat.le_refl _, fun i u b hu => (by simp at hu)⟩⟩, fun b => Iff.rfl, fun h => by omega, hrm3⟩
    (fun b hb => by omega))
  have HB3 := Lib.hid (Below.then HB1.out hbx HB1.out.size)
  have HR3 := Lib.hid (HR.out.upB hbx)
  have HZ3 := Lib.hid ((Sl.below HZ.out hbx (Nat.le_refl _)).more hbx.size)
  have HRG := Lib.hid hr3
  have HRM := Lib.hid hrm3
  have hmf : ∀ (fn : Fn) (first cap : Array Value) (w : World), (Instr.makeFunc fn first cap).run Try.prog w = .ok (.func fn first cap) w := fun _ _ _ _ => rfl
  have hzb3 : w.heap.size ≤ W3.heap.size := by omega
  have HBX13 := Lib.hid hbx
  have hz12 : w1.heap.size ≤ w2.heap.size := hb2.size
  clear HN hb2 hr3 hx3 hbx hrm3 HR1 HA
  go_wp2_with fail
  rw [← hW3]
  clear hW3 hmf
  refine HEA.out.mono ?_
  rintro e w4 ⟨h1, h2⟩
  by_cases he : errA m X = 0
  rotate_left
  · obtain ⟨rfl, hb4⟩ := h1 he
    obtain rfl : z = errA m X := HZZ.out.trans (if_neg he)
    have hnb : (errA m X != 0) = true := by simpa using he
    have HW := Lib.hid (r35Wrong_any m A2 A3 C2 C3 X w4 (HR3.out.upB hb4) ((Sl.below HZ3.out hb4 (Nat.le_refl _)).more hb4.size) (by omega) (vls HX.out))
    have HB4 := Lib.hid (Below.then HB3.out hb4 HB3.out.size)
    have HRG4 := Lib.hid (HRG.out.up hb4)
    clear he h1 h2 hb4 HZZ HEA
    generalize errA m X = q at *
    go_wp2_with fail
    refine HW.out.mono ?_
    rintro e w5 ⟨rfl, hb5⟩
    have hrg := HRG4.out.up hb5
    have g0 : w5.cell? ⟨w2.heap.size, 0, none⟩ = some (.slice none 0 0) := hrg.cell 0
    have hgz := hrg.lt
    have HB5 := Lib.hid (Below.then HB4.out hb5 HB4.out.size)
    clear hb5 hrg HW
    go_wp2_with fail
    refine (l35awake_any w5).mono ?_
    rintro e w6 ⟨rfl, hb6⟩
    have hbw := Below.then HB5.out hb6 HB5.out.size
    clear hb6
    go_wp2
    go_ret
    exact ⟨rfl, hbw⟩
  obtain ⟨m', hm', hg⟩ := Good0.of HX.out he
  obtain rfl : m = m' := by omega
  obtain rfl : z = 1 := HZZ.out.trans (if_pos he)
  obtain ⟨st, rfl, hs1, hs2, O', ⟨O1, ⟨v, hs, hcol⟩, hO1, hnm, hrm4⟩, hO', hc4⟩ := h2 he
  rw [Int.toNat_natCast, feed_take (t0 % 10 + 1) (by omega) _ [] (by simp)] at hs1 hcol
  simp only [List.nil_append, List.length_nil, Nat.sub_zero] at hs1 hcol
  have hJl := Nat.le_trans hg.len (pow4 hm8)
  have hb4 : Below w.heap.size w w4 := Below.then HB3.out (hc4.below (B := w.heap.size) hzb3 fun b hb => by omega) (Nat.le_refl _)
  have HB4 := Lib.hid hb4
  have hbig : ∀ b, O1 b → b < w4.heap.size ∧ w.heap.size ≤ b := fun b hb => by
    obtain ⟨q1, q2⟩ := hO' b ((hO1 b).2 (.inl hb))
    exact ⟨q1, by omega⟩
  have HOB := Lib.hid hbig
  have hb34 : Below w2.heap.size W3 w4 := ⟨hc4.os, hc4.tape, hc4.output, hc4.size, fun x hx => by
    by_cases hxm : x = w.heap.size
    · rw [hxm]; exact hrm4.trans HRM.out.symm
    · exact hc4.block x (by omega) (fun h => h.elim (fun e => by omega) hxm)⟩
  have hb14 := Below.then HBX13.out hb34 hz12
  have HW := Lib.hid (r35Wrong_any m A2 A3 C2 C3 X w4 (HR.out.upB hb14) ((Sl.below HZ.out hb14 (Nat.le_refl _)).more hb14.size) (by omega) (vls HX.out))
  have HR4 := Lib.hid (HR.out.upB hb14)
  have HRJ := Lib.hid (fun W (hb : Below w4.heap.size w4 W) => refSP_any hg hm8 A2 C2 W (HR4.out.upB hb))
  clear hb34 hb14 hz12
  have HRS := Lib.hid hg.rsOk
  have HLM : Hid (∀ y ∈ joinF m (X.map RA.at), y.length = m) := fun y hy => ((hg.mem y).1 hy).1
  rw [he] at HW
  generalize joinF m (X.map RA.at) = J at *
  obtain ⟨GA, GC, rfl, hgc, hgm, -⟩ := own_slice hcol.own (by decide)
  have g0 : w4.cell? ⟨w2.heap.size, 0, none⟩ = some (.slice GA (J.take (t0 % 10 + 1)).length GC) := hcol.row.cell 0
  have g1 : w4.cell? ⟨w.heap.size, 0, none⟩ = some (.int .u8 (t0 : Nat)) := hrm4.cell 0
  have hgz := hcol.row.lt
  have hmz := hrm4.lt
  have hgl : (J.take (t0 % 10 + 1)).length ≤ J.length := by rw [List.length_take]; omega
  have hmin : (J.take (t0 % 10 + 1)).length = min (t0 % 10 + 1) J.length := List.length_take
  have HCOL := Lib.hid hcol
  have HTG : Hid (J.take (J.take (t0 % 10 + 1)).length = J.take (t0 % 10 + 1)) := by
    show _ = _
    rw [List.length_take]
    rcases Nat.le_total (t0 % 10 + 1) J.length with h | h
    · rw [Nat.min_eq_left h]
    · rw [Nat.min_eq_right h, List.take_of_length_le (Nat.le_refl _), List.take_of_length_le h]
  have HGM : Hid (∀ y ∈ J.take (t0 % 10 + 1), y.length = m ∧ ROk y) := fun y hy => ⟨HLM.out y (List.mem_of_mem_take hy), HRS.out y (List.mem_of_mem_take hy)⟩
  have HMIN := Lib.hid hmin
  have HO1 := Lib.hid hO1
  generalize J.take (t0 % 10 + 1) = G at *
  clear he hm' hg h1 h2 hs2 hO1 hnm hrm4 hO' hc4 hb4 hbig hcol HZZ HEA hmin
  go_wp2_with fail
  refine HW.out.mono ?_
  rintro e w5 ⟨rfl, hb5⟩
  have HB5 := Lib.hid hb5
  have k0 := (hb5.cell (p := ⟨w2.heap.size, 0, none⟩) hgz).trans g0
  have k1 := (hb5.cell (p := ⟨w.heap.size, 0, none⟩) hmz).trans g1
  have hz5 := hb5.size
  clear hb5 HW g0 g1
  go_wp2_with fail
  refine (HRJ.out w5 HB5.out).mono ?_
  rintro e w6 ⟨B6, D6, rfl, hd1, hd2, hj6, hb6⟩
  have hg6 : w2.heap.size < w6.heap.size := by have := hb6.size; omega
  have hm6 : w.heap.size < w6.heap.size := by have := hb6.size; omega
  have k0 := (hb6.cell (p := ⟨w2.heap.size, 0, none⟩) (show w2.heap.size < w5.heap.size by omega)).trans k0
  have k1 := (hb6.cell (p := ⟨w.heap.size, 0, none⟩) (show w.heap.size < w5.heap.size by omega)).trans k1
  have HB6 := Lib.hid (Below.then HB5.out hb6 hz5)
  have HJ6 := Lib.hid hj6
  have HC6 := Lib.hid (HCOL.out.keep (fun b hb => HB6.out.block b (HOB.out b hb).1) HB6.out.size)
  have hst : decide ((st : Int) < (G.length : Int)) = false := decide_eq_false (by omega)
  have hst4 : ¬ st < G.length := by omega
  have ht1 : IntKind.i64.wrap ((t0 : Int).tmod 10) = (t0 : Int) % 10 := by
    rw [show (t0 : Int).tmod 10 = ((t0 % 10 : Nat) : Int) from rfl, IntWalk.i64_in _ (by omega)]
    omega
  have hmin3 : min (J.length : Int) ((t0 : Int) % 10 + 1) = (G.length : Int) := by
    rw [HMIN.out]
    omega
  have hb0 : (0 : Int) ≤ (G.length : Int) := by omega
  have hb1 : (G.length : Int) ≤ (D6 : Int) := by omega
  have hwt : IntKind.i64.wrap ((t0 : Int) % 10 + 1) = (t0 : Int) % 10 + 1 := by rw [IntWalk.i64_in _ (by omega)]
  clear hb6 hj6 HRJ HCOL
  go_wp2
  refine wp_region_held_drew (S := (fun w' => w'.cell? ⟨w2.heap.size, 0, none⟩ = some (.slice GA G.length GC) ∧ w'.cell? ⟨w.heap.size, 0, none⟩ = some (.int .u8 (t0 : Nat)))) (by kernel_rfl) ⟨k0, k1⟩ (fun hHeld => ?_)
  refine takeOp (i := 0) (v := ?_) (some 72) rfl rfl (by kernel_rfl) (by kernel_rfl) (by kernel_rfl) (fun _ _ _ h => h) (Or.inl ⟨by rfl, ?_⟩) (by assumption) ?_
  rotate_left 1
  · (intro w0 hSw; (try dsimp only at hSw); go_simp; try (with_reducible rfl))
  try simp only [Act.put]
  try simp only [List.setIfInBounds_toArray]
  try simp only [List.set_cons_succ]
  try simp only [List.set_cons_zero]
  refine takeOp (i := 1) (v := ?_) (some 73) rfl rfl (by kernel_rfl) (by kernel_rfl) (by kernel_rfl) (fun _ _ _ h => h) (Or.inl ⟨by rfl, ?_⟩) (by assumption) ?_
  rotate_left 1
  · (intro w0 hSw; (try dsimp only at hSw); go_simp; try (with_reducible rfl))
  try simp only [Act.put]
  try simp only [List.setIfInBounds_toArray]
  try simp only [List.set_cons_succ]
  try simp only [List.set_cons_zero]
  refine takeOp (i := 2) (v := ?_) (some 74) rfl rfl (by kernel_rfl) (by kernel_rfl) (by kernel_rfl) (fun _ _ _ h => h) (Or.inl ⟨by rfl, ?_⟩) (by assumption) ?_
  rotate_left 1
  · (intro w0 hSw; (try dsimp only at hSw); go_simp; try (with_reducible rfl))
  try simp only [Act.put]
  try simp only [List.setIfInBounds_toArray]
  try simp only [List.set_cons_succ]
  try simp only [List.set_cons_zero]
  refine takeOp (i := 3) (v := ?_) (some 75) rfl rfl (by kernel_rfl) (by kernel_rfl) (by kernel_rfl) (fun _ _ _ h => h) (Or.inl ⟨by rfl, ?_⟩) (by assumption) ?_
  rotate_left 1
  · (intro w0 hSw; (try dsimp only at hSw); go_simp; try (with_reducible rfl))
  try simp only [Act.put]
  try simp only [List.setIfInBounds_toArray]
  try simp only [List.set_cons_succ]
  try simp only [List.set_cons_zero]
  refine takeOp (i := 4) (v := ?_) (some 76) rfl rfl (by kernel_rfl) (by kernel_rfl) (by kernel_rfl) (fun _ _ _ h => h) (Or.inl ⟨by rfl, ?_⟩) (by assumption) ?_
  rotate_left 1
  · (intro w0 hSw; (try dsimp only at hSw); go_simp; try (with_reducible rfl))
  try simp only [Act.put]
  try simp only [List.setIfInBounds_toArray]
  try simp only [List.set_cons_succ]
  try simp only [List.set_cons_zero]
  refine takeOp (i := 5) (v := ?_) (some 77) rfl rfl (by kernel_rfl) (by kernel_rfl) (by kernel_rfl) (fun _ _ _ h => h) (Or.inl ⟨by rfl, ?_⟩) (by assumption) ?_
  rotate_left 1
  · (intro w0 hSw; (try dsimp only at hSw); go_simp; try (with_reducible rfl))
  try simp only [Act.put]
  try simp only [List.setIfInBounds_toArray]
  try simp only [List.set_cons_succ]
  try simp only [List.set_cons_zero]
  refine takeOp (i := 6) (v := ?_) (some 78) rfl rfl (by kernel_rfl) (by kernel_rfl) (by kernel_rfl) (fun _ _ _ h => h) (Or.inl ⟨by rfl, ?_⟩) (by assumption) ?_
  rotate_left 1
  · (intro w0 hSw; (try dsimp only at hSw); go_simp; try (with_reducible rfl))
  try simp only [Act.put]
  try simp only [List.setIfInBounds_toArray]
  try simp only [List.set_cons_succ]
  try simp only [List.set_cons_zero]
  refine takeOp (i := 7) (v := ?_) (some 79) rfl rfl (by kernel_rfl) (by kernel_rfl) (by kernel_rfl) (fun _ _ _ h => h) (Or.inl ⟨by rfl, ?_⟩) (by assumption) ?_
  rotate_left 1
  · (intro w0 hSw; (try dsimp only at hSw); go_simp; try (with_reducible rfl))
  try simp only [Act.put]
  try simp only [List.setIfInBounds_toArray]
  try simp only [List.set_cons_succ]
  try simp only [List.set_cons_zero]
  refine takeOp (i := 8) (v := ?_) (some 80) rfl rfl (by kernel_rfl) (by kernel_rfl) (by kernel_rfl) (fun _ _ _ h => h) (Or.inl ⟨by rfl, ?_⟩) (by assumption) ?_
  rotate_left 1
  · (intro w0 hSw; (try dsimp only at hSw); go_simp; try (with_reducible rfl))
  try simp only [Act.put]
  try simp only [List.setIfInBounds_toArray]
  try simp only [List.set_cons_succ]
  try simp only [List.set_cons_zero]
  refine takeOp (i := 9) (v := ?_) (some 81) rfl rfl (by kernel_rfl) (by kernel_rfl) (by kernel_rfl) (fun _ _ _ h => h) (Or.inl ⟨by rfl, ?_⟩) (by assumption) ?_
  rotate_left 1
  · (intro w0 hSw; (try dsimp only at hSw); go_simp; try (with_reducible rfl))
  try simp only [Act.put]
  try simp only [List.setIfInBounds_toArray]
  try simp only [List.set_cons_succ]
  try simp only [List.set_cons_zero]
  refine takeOp (i := 10) (v := ?_) (some 82) rfl rfl (by kernel_rfl) (by kernel_rfl) (by kernel_rfl) (fun _ _ _ h => h) (Or.inl ⟨by rfl, ?_⟩) (by assumption) ?_
  rotate_left 1
  · (intro w0 hSw; (try dsimp only at hSw); go_simp; try (with_reducible rfl))
  try simp only [Act.put]
  try simp only [List.setIfInBounds_toArray]
  try simp only [List.set_cons_succ]
  try simp only [List.set_cons_zero]
  refine takeOp (i := 11) (v := ?_) (some 83) rfl rfl (by kernel_rfl) (by kernel_rfl) (by kernel_rfl) (fun _ _ _ h => h) (Or.inl ⟨by rfl, ?_⟩) (by assumption) ?_
  rotate_left 1
  · (intro w0 hSw; (try dsimp only at hSw); go_simp; try (with_reducible rfl))
  try simp only [Act.put]
  try simp only [List.setIfInBounds_toArray]
  try simp only [List.set_cons_succ]
  try simp only [List.set_cons_zero]
  refine takeOp (i := 12) (v := ?_) (some 84) rfl rfl (by kernel_rfl) (by kernel_rfl) (by kernel_rfl) (fun _ _ _ h => h) (Or.inl ⟨by rfl, ?_⟩) (by assumption) ?_
  rotate_left 1
  · (intro w0 hSw; (try dsimp only at hSw); go_simp; try (with_reducible rfl))
  try simp only [Act.put]
  try simp only [List.setIfInBounds_toArray]
  try simp only [List.set_cons_succ]
  try simp only [List.set_cons_zero]
  refine takeOp (i := 13) (v := ?_) (some 85) rfl rfl (by kernel_rfl) (by kernel_rfl) (by kernel_rfl) (fun _ _ _ h => h) (Or.inl ⟨by rfl, ?_⟩) (by assumption) ?_
  rotate_left 1
  · (intro w0 hSw; (try dsimp only at hSw); go_simp; try (with_reducible rfl))
  try simp only [Act.put]
  try simp only [List.setIfInBounds_toArray]
  try simp only [List.set_cons_succ]
  try simp only [List.set_cons_zero]
  refine takeOp (i := 14) (v := ?_) (some 86) rfl rfl (by kernel_rfl) (by kernel_rfl) (by kernel_rfl) (fun _ _ _ h => h) (Or.inl ⟨by rfl, ?_⟩) (by assumption) ?_
  rotate_left 1
  · (intro w0 hSw; (try dsimp only at hSw); go_simp; try (with_reducible rfl))
  try simp only [Act.put]
  try simp only [List.setIfInBounds_toArray]
  try simp only [List.set_cons_succ]
  try simp only [List.set_cons_zero]
  refine takeOp (i := 15) (v := ?_) (some 87) rfl rfl (by kernel_rfl) (by kernel_rfl) (by kernel_rfl) (fun _ _ _ h => h) (Or.inl ⟨by rfl, ?_⟩) (by assumption) ?_
  rotate_left 1
  · (intro w0 hSw; (try dsimp only at hSw); go_simp; try (with_reducible rfl))
  try simp only [Act.put]
  try simp only [List.setIfInBounds_toArray]
  try simp only [List.set_cons_succ]
  try simp only [List.set_cons_zero]
  refine takeOp (i := 16) (v := ?_) (some 88) rfl rfl (by kernel_rfl) (by kernel_rfl) (by kernel_rfl) (fun _ _ _ h => h) (Or.inl ⟨by rfl, ?_⟩) (by assumption) ?_
  rotate_left 1
  · (intro w0 hSw; (try dsimp only at hSw); go_simp; try (with_reducible rfl))
  try simp only [Act.put]
  try simp only [List.setIfInBounds_toArray]
  try simp only [List.set_cons_succ]
  try simp only [List.set_cons_zero]
  refine takeOp (i := 17) (v := ?_) (some 89) rfl rfl (by kernel_rfl) (by kernel_rfl) (by kernel_rfl) (fun _ _ _ h => h) (Or.inl ⟨by rfl, ?_⟩) (by assumption) ?_
  rotate_left 1
  · (intro w0 hSw; (try dsimp only at hSw); go_simp; try (with_reducible rfl))
  try simp only [Act.put]
  try simp only [List.setIfInBounds_toArray]
  try simp only [List.set_cons_succ]
  try simp only [List.set_cons_zero]
  refine takeOp (i := 18) (v := ?_) (some 90) rfl rfl (by kernel_rfl) (by kernel_rfl) (by kernel_rfl) (fun _ _ _ h => h) (Or.inl ⟨by rfl, ?_⟩) (by assumption) ?_
  rotate_left 1
  · (intro w0 hSw; (try dsimp only at hSw); go_simp; try (with_reducible rfl))
  try simp only [Act.put]
  try simp only [List.setIfInBounds_toArray]
  try simp only [List.set_cons_succ]
  try simp only [List.set_cons_zero]
  refine takeOp (i := 19) (v := ?_) (some 91) rfl rfl (by kernel_rfl) (by kernel_rfl) (by kernel_rfl) (fun _ _ _ h => h) (Or.inl ⟨by rfl, ?_⟩) (by assumption) ?_
  rotate_left 1
  · (intro w0 hSw; (try dsimp only at hSw); go_simp; try (with_reducible rfl))
  try simp only [Act.put]
  try simp only [List.setIfInBounds_toArray]
  try simp only [List.set_cons_succ]
  try simp only [List.set_cons_zero]
  refine takeOp (i := 20) (v := ?_) (some 92) rfl rfl (by kernel_rfl) (by kernel_rfl) (by kernel_rfl) (fun _ _ _ h => h) (Or.inl ⟨by rfl, ?_⟩) (by assumption) ?_
  rotate_left 1
  · (intro w0 hSw; (try dsimp only at hSw); go_simp; try (with_reducible rfl))
  try simp only [Act.put]
  try simp only [List.setIfInBounds_toArray]
  try simp only [List.set_cons_succ]
  try simp only [List.set_cons_zero]
  refine takeOp (i := 21) (v := ?_) (some 93) rfl rfl (by kernel_rfl) (by kernel_rfl) (by kernel_rfl) (fun _ _ _ h => h) (Or.inl ⟨by rfl, ?_⟩) (by assumption) ?_
  rotate_left 1
  · (intro w0 hSw; (try dsimp only at hSw); go_simp; try (with_reducible rfl))
  try simp only [Act.put]
  try simp only [List.setIfInBounds_toArray]
  try simp only [List.set_cons_succ]
  try simp only [List.set_cons_zero]
  refine takeOp (i := 22) (v := ?_) (some 94) rfl rfl (by kernel_rfl) (by kernel_rfl) (by kernel_rfl) (fun _ _ _ h => h) (Or.inl ⟨by rfl, ?_⟩) (by assumption) ?_
  rotate_left 1
  · (intro w0 hSw; (try dsimp only at hSw); go_simp; try (with_reducible rfl))
  try simp only [Act.put]
  try simp only [List.setIfInBounds_toArray]
  try simp only [List.set_cons_succ]
  try simp only [List.set_cons_zero]
  refine wpAnyH_ready (rs := [23]) (by kernel_rfl) (by simp) ?_
  refine AllReadyH.cons rfl (fun K hK => ?_) AllReadyH.nil
  go_simp
  have HSM := Lib.hid (same_refl GA B6 GC D6 G w6.drew (by
    obtain ⟨A', C', e, -, -, hh⟩ := HC6.out.sl
    injection e with e1 _ _
    subst e1
    exact hh) (by
    have h := HJ6.out.sl.take G.length
    rw [HTG.out] at h
    exact h) (by omega) (fun y hy => (HGM.out y hy).2))
  refine HSM.out.mono ?_
  rintro e w7 ⟨rfl, hb7⟩
  have hb7 : Below w6.heap.size w6 w7 := Below.then (Ext.refl w6).drew.below hb7 (Nat.le_refl _)
  have KEEP : w7.cell? ⟨w2.heap.size, 0, none⟩ = some (.slice GA G.length GC) ∧ w7.cell? ⟨w.heap.size, 0, none⟩ = some (.int .u8 (t0 : Nat)) := ⟨(hb7.cell (p := ⟨w2.heap.size, 0, none⟩) hg6).trans k0, (hb7.cell (p := ⟨w.heap.size, 0, none⟩) hm6).trans k1⟩
  have HB7 := Lib.hid (Below.then HB6.out hb7 HB6.out.size)
  have HC7 := Lib.hid (HC6.out.keep (fun b hb => hb7.block b (Nat.lt_of_lt_of_le (HOB.out b hb).1 HB6.out.size)) hb7.size)
  have HJ7 := Lib.hid (HJ6.out.upB hb7)
  have HBX : Hid (w4.heap.size ≤ w5.heap.size) := hz5
  have hg7 : w2.heap.size < w7.heap.size := Nat.lt_of_lt_of_le hg6 hb7.size
  clear hb7 HSM
  go_wp2_with fail
  refine hK.out _ _ KEEP (fun hHeld => ?_)
  clear hK K
  try simp only [Act.put]
  try simp only [List.setIfInBounds_toArray]
  try simp only [List.set_cons_succ]
  try simp only [List.set_cons_zero]
  refine takeOp (i := 24) (v := ?_) (some 96) rfl rfl (by kernel_rfl) (by kernel_rfl) (by kernel_rfl) (fun _ _ _ h => h) (Or.inl ⟨by rfl, ?_⟩) (by assumption) ?_
  rotate_left 1
  · (intro w0 hSw; (try dsimp only at hSw); go_simp; try (with_reducible rfl))
  try simp only [Act.put]
  try simp only [List.setIfInBounds_toArray]
  try simp only [List.set_cons_succ]
  try simp only [List.set_cons_zero]
  refine takeOp (i := 25) (v := ?_) (some 97) rfl rfl (by kernel_rfl) (by kernel_rfl) (by kernel_rfl) (fun _ _ _ h => h) (Or.inl ⟨by rfl, ?_⟩) (by assumption) ?_
  rotate_left 1
  · (intro w0 hSw; (try dsimp only at hSw); go_simp; try (with_reducible rfl))
  try simp only [Act.put]
  try simp only [List.setIfInBounds_toArray]
  try simp only [List.set_cons_succ]
  try simp only [List.set_cons_zero]
  refine wpAnyH_done (by kernel_rfl) ?_ _
  have HBW7 := Lib.hid (Below.then HB4.out HB7.out HB4.out.size)
  have k7 := KEEP.1
  clear KEEP k0 k1 hHeld hst hst4 ht1 hmin3 hb0 hb1 hwt HC6 HJ6 HB6
  go_wp2_with fail
  go_loopw [100] (fun c wr => ∃ i : Nat, i ≤ G.length ∧ c = .int .i64 i ∧ Chg (FZ hs i) w7 wr) (fun c _ => G.length - (intOf c).toNat)
  case atStart => exact ⟨0, Nat.zero_le _, rfl, Chg.refl _ _⟩
  case round =>
    obtain ⟨i, hi, rfl, hch⟩ := hrel
    have HCH := Lib.hid hch
    have hzr := hch.size
    have HFB : Hid (∀ x, FZ hs i x → w.heap.size ≤ x) := fun x ⟨j, u, _, q2, q3⟩ => (HOB.out x (HC7.out.blk j u x q2 q3).1).2
    clear k7 hch
    by_cases hil : i < G.length
    · obtain ⟨b, rfl⟩ : ∃ b, GA = some ⟨b, 0, none⟩ := by
        obtain ⟨A2, C2, e, -, -, hcl⟩ := own_slice HC7.out.own (by decide)
        injection e with e1 _ _
        subst e1
        obtain ⟨b, rfl, _⟩ := hcl (fun h => by have := HC7.out.len; rw [h] at this; simp at this; omega)
        exact ⟨b, rfl⟩
      obtain ⟨A', C', hu, c0, hbz, hc', hm'⟩ := HC7.out.hdr HCH.out rfl hil
      have hlen := (HGM.out G[i] (List.getElem_mem hil)).1
      have HWR : Hid (WrR wr A' m) := by
        obtain ⟨A2, C2, q1, -, -, q4⟩ := HC7.out.el i hil
        rw [hu] at q1
        injection q1 with q1
        injection q1 with q1 _ _
        subst q1
        rw [← hlen]
        exact WrR.of q4 (fun ad e o => HC7.out.fz i _ ad.block hu (by rw [e]; rfl) o) HCH.out fun ad e ⟨j, u, p1, p2, p3⟩ => HC7.out.sep j i u _ ad.block p2 hu (by omega) p3 (by rw [e]; rfl)
      have HNB : Hid (∀ x, (Value.slice A' m C').ownBlock = some x → x ≠ w2.heap.size ∧ x ≠ b ∧ w.heap.size ≤ x) := fun x hx => by
        have h := HC7.out.blk i _ x hu (by rw [hlen]; exact hx)
        exact ⟨h.2.1, fun e => h.2.2 (by rw [e]; rfl), (HOB.out x h.1).2⟩
      rw [hlen] at hu c0
      have HU := Lib.hid hu
      have k0 : wr.cell? ⟨w2.heap.size, 0, none⟩ = some (.slice (some ⟨b, 0, none⟩) G.length GC) := (HC7.out.box HCH.out).cell 0
      have hgr := (HC7.out.box HCH.out).lt
      have hbr : b < wr.heap.size := Nat.lt_of_lt_of_le hbz hzr
      have g1 : (0 : Int) ≤ (i : Int) := by omega
      have g2 : (i : Int) < (G.length : Int) := by omega
      clear hu hc' hm' hlen
      obtain ⟨wo, hwo⟩ : ∃ wo, wo = wr := ⟨_, rfl⟩
      subst hwo
      go_wp2_with fail
      go_loopw [108] (fun c wx => ∃ k : Nat, k ≤ m ∧ c = .int .i64 k ∧ Chg (fun x => (Value.slice A' m C').ownBlock = some x) wo wx ∧ WrR wx A' m) (fun c _ => m - (intOf c).toNat)
      case atStart => exact ⟨0, Nat.zero_le _, rfl, Chg.refl _ _, HWR.out⟩
      case round =>
        obtain ⟨k, hk, rfl, hck, hwk⟩ := hrel
        have HCK := Lib.hid hck
        have HWK := Lib.hid hwk
        have hzk := hck.size
        have k2 := (hck.cell (p := ⟨w2.heap.size, 0, none⟩) hgr fun e => (HNB.out _ e).1 rfl).trans k0
        have c2 := (hck.cell (p := ⟨b, i, none⟩) hbr fun e => (HNB.out _ e).2.1 rfl).trans c0
        have hgk : w2.heap.size < wr.heap.size := Nat.lt_of_lt_of_le hgr hzk
        have hbk : b < wr.heap.size := Nat.lt_of_lt_of_le hbr hzk
        clear hck hwk k0 c0
        by_cases hkm : k < m
        · obtain ⟨rb, ro, rfl, hrb, hcell⟩ := HWK.out (by omega)
          obtain ⟨⟨v0, e0⟩, f0⟩ := hcell (k * 3) (by omega)
          obtain ⟨⟨v1, e1⟩, f1⟩ := hcell (k * 3 + 1) (by omega)
          obtain ⟨⟨v2, e2⟩, f2⟩ := hcell (k * 3 + 2) (by omega)
          rw [← Nat.add_assoc] at e1 f1 e2 f2
          have g3 : (0 : Int) ≤ (k : Int) := by omega
          have g4 : (k : Int) < (m : Int) := by omega
          have hw1 : IntKind.i64.wrap ((k : Int) + 1) = ((k + 1 : Nat) : Int) := by rw [IntWalk.i64_in _ (by omega)]; omega
          have HC3 := Lib.hid (((HCK.out.trans (Chg.set _ rb (ro + k * 3) (.int .i64 0) rfl)).trans (Chg.set _ rb (ro + k * 3 + 1) (.int .i64 0) rfl)).trans (Chg.set _ rb (ro + k * 3 + 2) (.string ⟨#[]⟩) rfl))
          have HW3 := Lib.hid (((HWK.out.set ⟨rb, ro + k * 3, none⟩ (.int .i64 0)).set ⟨rb, ro + k * 3 + 1, none⟩ (.int .i64 0)).set ⟨rb, ro + k * 3 + 2, none⟩ (.string ⟨#[]⟩))
          clear hcell
          go_wp2
          go_roundw
          case rel => exact ⟨k + 1, hkm, by go_num, HC3.out, HW3.out⟩
          case measure => simp [intOf]; omega
        · have HCN := Lib.hid (FZ.succ HU.out HCH.out HCK.out)
          have hzn := HCN.out.size
          have k3 := (HC7.out.box HCN.out).cell 0
          have hg3 := (HC7.out.box HCN.out).lt
          have hb3 : b < wr.heap.size := hbk
          have hw1 : IntKind.i64.wrap ((i : Int) + 1) = (i : Int) + 1 := by rw [IntWalk.i64_in _ (by omega)]
          have k3 : wr.cell? ⟨w2.heap.size, 0, none⟩ = some (.slice (some ⟨b, 0, none⟩) G.length GC) := k3
          clear k2 c2 hgk hbk
          obtain ⟨bj, oj, rfl, -, -, -⟩ := HJ7.out (by intro h; have h2 := hgl; rw [h] at h2; simp only [List.length_nil] at h2; omega)
          by_cases hlast : i + 1 < G.length
          · have hg5 : ¬ GC = i + 1 := by omega
            have hg6 : ¬ D6 = i + 1 := by omega
            have q1 : (0 : Int) ≤ (i : Int) + 1 := by omega
            have q2 : (i : Int) + 1 ≤ (G.length : Int) := by omega
            have q3 : (G.length : Int) ≤ (D6 : Int) := by omega
            have q4 : (i : Int) + 1 < (G.length : Int) := by omega
            have q5 : (0 : Int) ≤ (G.length : Int) := by omega
            go_wp2
            refine wp_region_held_drew (S := (fun w' => w'.cell? ⟨w2.heap.size, 0, none⟩ = some (.slice (some ⟨b, 0, none⟩) G.length GC))) (by kernel_rfl) k3 (fun hHeld => ?_)
            refine takeOp (i := 0) (v := ?_) (some 119) rfl rfl (by kernel_rfl) (by kernel_rfl) (by kernel_rfl) (fun _ _ _ h => h) (Or.inl ⟨by rfl, ?_⟩) (by assumption) ?_
            rotate_left 1
            · (intro w0 hSw; (try dsimp only at hSw); go_simp; try (with_reducible rfl))
            try simp only [Act.put]
            try simp only [List.setIfInBounds_toArray]
            try simp only [List.set_cons_succ]
            try simp only [List.set_cons_zero]
            refine takeOp (i := 1) (v := ?_) (some 120) rfl rfl (by kernel_rfl) (by kernel_rfl) (by kernel_rfl) (fun _ _ _ h => h) (Or.inl ⟨by rfl, ?_⟩) (by assumption) ?_
            rotate_left 1
            · (intro w0 hSw; (try dsimp only at hSw); go_simp; try (with_reducible rfl))
            try simp only [Act.put]
            try simp only [List.setIfInBounds_toArray]
            try simp only [List.set_cons_succ]
            try simp only [List.set_cons_zero]
            refine takeOp (i := 2) (v := ?_) (some 121) rfl rfl (by kernel_rfl) (by kernel_rfl) (by kernel_rfl) (fun _ _ _ h => h) (Or.inl ⟨by rfl, ?_⟩) (by assumption) ?_
            rotate_left 1
            · (intro w0 hSw; (try dsimp only at hSw); go_simp; try (with_reducible rfl))
            try simp only [Act.put]
            try simp only [List.setIfInBounds_toArray]
            try simp only [List.set_cons_succ]
            try simp only [List.set_cons_zero]
            refine takeOp (i := 3) (v := ?_) (some 122) rfl rfl (by kernel_rfl) (by kernel_rfl) (by kernel_rfl) (fun _ _ _ h => h) (Or.inl ⟨by rfl, ?_⟩) (by assumption) ?_
            rotate_left 1
            · (intro w0 hSw; (try dsimp only at hSw); go_simp; try (with_reducible rfl))
            try simp only [Act.put]
            try simp only [List.setIfInBounds_toArray]
            try simp only [List.set_cons_succ]
            try simp only [List.set_cons_zero]
            refine takeOp (i := 4) (v := ?_) (some 123) rfl rfl (by kernel_rfl) (by kernel_rfl) (by kernel_rfl) (fun _ _ _ h => h) (Or.inl ⟨by rfl, ?_⟩) (by assumption) ?_
            rotate_left 1
            · (intro w0 hSw; (try dsimp only at hSw); go_simp; try (with_reducible rfl))
            try simp only [Act.put]
            try simp only [List.setIfInBounds_toArray]
            try simp only [List.set_cons_succ]
            try simp only [List.set_cons_zero]
            refine takeOp (i := 5) (v := ?_) (some 124) rfl rfl (by kernel_rfl) (by kernel_rfl) (by kernel_rfl) (fun _ _ _ h => h) (Or.inl ⟨by rfl, ?_⟩) (by assumption) ?_
            rotate_left 1
            · (intro w0 hSw; (try dsimp only at hSw); go_simp; try (with_reducible rfl))
            try simp only [Act.put]
            try simp only [List.setIfInBounds_toArray]
            try simp only [List.set_cons_succ]
            try simp only [List.set_cons_zero]
            refine takeOp (i := 6) (v := ?_) (some 125) rfl rfl (by kernel_rfl) (by kernel_rfl) (by kernel_rfl) (fun _ _ _ h => h) (Or.inl ⟨by rfl, ?_⟩) (by assumption) ?_
            rotate_left 1
            · (intro w0 hSw; (try dsimp only at hSw); go_simp; try (with_reducible rfl))
            try simp only [Act.put]
            try simp only [List.setIfInBounds_toArray]
            try simp only [List.set_cons_succ]
            try simp only [List.set_cons_zero]
            refine takeOp (i := 7) (v := ?_) (some 126) rfl rfl (by kernel_rfl) (by kernel_rfl) (by kernel_rfl) (fun _ _ _ h => h) (Or.inl ⟨by rfl, ?_⟩) (by assumption) ?_
            rotate_left 1
            · (intro w0 hSw; (try dsimp only at hSw); go_simp; try (with_reducible rfl))
            try simp only [Act.put]
            try simp only [List.setIfInBounds_toArray]
            try simp only [List.set_cons_succ]
            try simp only [List.set_cons_zero]
            refine takeOp (i := 8) (v := ?_) (some 127) rfl rfl (by kernel_rfl) (by kernel_rfl) (by kernel_rfl) (fun _ _ _ h => h) (Or.inl ⟨by rfl, ?_⟩) (by assumption) ?_
            rotate_left 1
            · (intro w0 hSw; (try dsimp only at hSw); go_simp; try (with_reducible rfl))
            try simp only [Act.put]
            try simp only [List.setIfInBounds_toArray]
            try simp only [List.set_cons_succ]
            try simp only [List.set_cons_zero]
            refine takeOp (i := 9) (v := ?_) (some 128) rfl rfl (by kernel_rfl) (by kernel_rfl) (by kernel_rfl) (fun _ _ _ h => h) (Or.inl ⟨by rfl, ?_⟩) (by assumption) ?_
            rotate_left 1
            · (intro w0 hSw; (try dsimp only at hSw); go_simp; try (with_reducible rfl))
            try simp only [Act.put]
            try simp only [List.setIfInBounds_toArray]
            try simp only [List.set_cons_succ]
            try simp only [List.set_cons_zero]
            refine takeOp (i := 10) (v := ?_) (some 129) rfl rfl (by kernel_rfl) (by kernel_rfl) (by kernel_rfl) (fun _ _ _ h => h) (Or.inl ⟨by rfl, ?_⟩) (by assumption) ?_
            rotate_left 1
            · (intro w0 hSw; (try dsimp only at hSw); go_simp; try (with_reducible rfl))
            try simp only [Act.put]
            try simp only [List.setIfInBounds_toArray]
            try simp only [List.set_cons_succ]
            try simp only [List.set_cons_zero]
            refine takeOp (i := 11) (v := ?_) (some 130) rfl rfl (by kernel_rfl) (by kernel_rfl) (by kernel_rfl) (fun _ _ _ h => h) (Or.inl ⟨by rfl, ?_⟩) (by assumption) ?_
            rotate_left 1
            · (intro w0 hSw; (try dsimp only at hSw); go_simp; try (with_reducible rfl))
            try simp only [Act.put]
            try simp only [List.setIfInBounds_toArray]
            try simp only [List.set_cons_succ]
            try simp only [List.set_cons_zero]
            refine takeOp (i := 12) (v := ?_) (some 131) rfl rfl (by kernel_rfl) (by kernel_rfl) (by kernel_rfl) (fun _ _ _ h => h) (Or.inl ⟨by rfl, ?_⟩) (by assumption) ?_
            rotate_left 1
            · (intro w0 hSw; (try dsimp only at hSw); go_simp; try (with_reducible rfl))
            try simp only [Act.put]
            try simp only [List.setIfInBounds_toArray]
            try simp only [List.set_cons_succ]
            try simp only [List.set_cons_zero]
            refine takeOp (i := 13) (v := ?_) (some 132) rfl rfl (by kernel_rfl) (by kernel_rfl) (by kernel_rfl) (fun _ _ _ h => h) (Or.inl ⟨by rfl, ?_⟩) (by assumption) ?_
            rotate_left 1
            · (intro w0 hSw; (try dsimp only at hSw); go_simp; try (with_reducible rfl))
            try simp only [Act.put]
            try simp only [List.setIfInBounds_toArray]
            try simp only [List.set_cons_succ]
            try simp only [List.set_cons_zero]
            refine takeOp (i := 14) (v := ?_) (some 133) rfl rfl (by kernel_rfl) (by kernel_rfl) (by kernel_rfl) (fun _ _ _ h => h) (Or.inl ⟨by rfl, ?_⟩) (by assumption) ?_
            rotate_left 1
            · (intro w0 hSw; (try dsimp only at hSw); go_simp; try (with_reducible rfl))
            try simp only [Act.put]
            try simp only [List.setIfInBounds_toArray]
            try simp only [List.set_cons_succ]
            try simp only [List.set_cons_zero]
            refine takeOp (i := 15) (v := ?_) (some 134) rfl rfl (by kernel_rfl) (by kernel_rfl) (by kernel_rfl) (fun _ _ _ h => h) (Or.inl ⟨by rfl, ?_⟩) (by assumption) ?_
            rotate_left 1
            · (intro w0 hSw; (try dsimp only at hSw); go_simp; try (with_reducible rfl))
            try simp only [Act.put]
            try simp only [List.setIfInBounds_toArray]
            try simp only [List.set_cons_succ]
            try simp only [List.set_cons_zero]
            refine wpAnyH_ready (rs := [16]) (by kernel_rfl) (by simp) ?_
            refine AllReadyH.cons rfl (fun K hK => ?_) AllReadyH.nil
            go_simp
            have HX1 := HC7.out.rows HCN.out rfl
            have HJD := (HJ7.out.keep (fun p hp hP => HCN.out.cell hp fun ⟨j, u, p1, p2, p3⟩ => by have := (HOB.out _ (HC7.out.blk j u _ p2 p3).1).1; have := HBX.out; omega)).more hzn
            have hj2 := HJD.sl.take G.length
            rw [HTG.out] at hj2
            have HSM := Lib.hid (same_refl (some ⟨b, i + 1, none⟩) (some ⟨bj, oj + (i + 1), none⟩) (GC - (i + 1)) (D6 - (i + 1)) (G.drop (i + 1)) wr.drew HX1 (hj2.drop (i + 1)) (by rw [List.length_drop]; omega) (fun y hy => (HGM.out y (List.mem_of_mem_drop hy)).2))
            rw [List.length_drop] at HSM
            refine HSM.out.mono ?_
            rintro e w9 ⟨rfl, hb9⟩
            have hb9 : Below wr.heap.size wr w9 := Below.then (Ext.refl wr).drew.below hb9 (Nat.le_refl _)
            have KEEP : w9.cell? ⟨w2.heap.size, 0, none⟩ = some (.slice (some ⟨b, 0, none⟩) G.length GC) := (hb9.cell (p := ⟨w2.heap.size, 0, none⟩) hg3).trans k3
            have HC9 : Hid (Chg (FZ hs (i + 1)) w7 w9) := HCN.out.then (Chg.of_below hb9 (F := fun x => wr.heap.size ≤ x) fun _ h _ => h) fun x h1 h2 => by have := HCN.out.size; omega
            clear HX1 HJD hj2 hb9 HSM
            go_wp2_with fail
            refine hK.out _ _ KEEP (fun hHeld => ?_)
            clear hK K
            try simp only [Act.put]
            try simp only [List.setIfInBounds_toArray]
            try simp only [List.set_cons_succ]
            try simp only [List.set_cons_zero]
            refine takeOp (i := 17) (v := ?_) (some 136) rfl rfl (by kernel_rfl) (by kernel_rfl) (by kernel_rfl) (fun _ _ _ h => h) (Or.inl ⟨by rfl, ?_⟩) (by assumption) ?_
            rotate_left 1
            · (intro w0 hSw; (try dsimp only at hSw); go_simp; try (with_reducible rfl))
            try simp only [Act.put]
            try simp only [List.setIfInBounds_toArray]
            try simp only [List.set_cons_succ]
            try simp only [List.set_cons_zero]
            refine takeOp (i := 18) (v := ?_) (some 137) rfl rfl (by kernel_rfl) (by kernel_rfl) (by kernel_rfl) (fun _ _ _ h => h) (Or.inl ⟨by rfl, ?_⟩) (by assumption) ?_
            rotate_left 1
            · (intro w0 hSw; (try dsimp only at hSw); go_simp; try (with_reducible rfl))
            try simp only [Act.put]
            try simp only [List.setIfInBounds_toArray]
            try simp only [List.set_cons_succ]
            try simp only [List.set_cons_zero]
            refine wpAnyH_done (by kernel_rfl) ?_ _
            have hw2 : IntKind.i64.wrap ((i : Int) + 1) = ((i + 1 : Nat) : Int) := by rw [IntWalk.i64_in _ (by omega)]; omega
            clear hw1 q1 q2 q3 q4 q5 k3 hHeld KEEP hg5 hg6
            go_wp2
            go_roundw
            case rel => exact ⟨i + 1, hil, by go_num, HC9.out⟩
            case measure => simp [intOf]; omega
          · have q4 : ¬ (i : Int) + 1 < (G.length : Int) := by omega
            have q5 : ¬ i + 1 < G.length := hlast
            have q6 : decide ((i : Int) + 1 < (G.length : Int)) = false := decide_eq_false q4
            have q7 : decide (i + 1 < G.length) = false := decide_eq_false q5
            go_wp2
            refine wp_region_held_drew (S := (fun w' => w'.cell? ⟨w2.heap.size, 0, none⟩ = some (.slice (some ⟨b, 0, none⟩) G.length GC))) (by kernel_rfl) k3 (fun hHeld => ?_)
            refine takeOp (i := 0) (v := ?_) (some 119) rfl rfl (by kernel_rfl) (by kernel_rfl) (by kernel_rfl) (fun _ _ _ h => h) (Or.inl ⟨by rfl, ?_⟩) (by assumption) ?_
            rotate_left 1
            · (intro w0 hSw; (try dsimp only at hSw); go_simp; try (with_reducible rfl))
            try simp only [Act.put]
            try simp only [List.setIfInBounds_toArray]
            try simp only [List.set_cons_succ]
            try simp only [List.set_cons_zero]
            refine takeOp (i := 1) (v := ?_) (some 120) rfl rfl (by kernel_rfl) (by kernel_rfl) (by kernel_rfl) (fun _ _ _ h => h) (Or.inl ⟨by rfl, ?_⟩) (by assumption) ?_
            rotate_left 1
            · (intro w0 hSw; (try dsimp only at hSw); go_simp; try (with_reducible rfl))
            try simp only [Act.put]
            try simp only [List.setIfInBounds_toArray]
            try simp only [List.set_cons_succ]
            try simp only [List.set_cons_zero]
            refine takeOp (i := 2) (v := ?_) (some 121) rfl rfl (by kernel_rfl) (by kernel_rfl) (by kernel_rfl) (fun _ _ _ h => h) (Or.inl ⟨by rfl, ?_⟩) (by assumption) ?_
            rotate_left 1
            · (intro w0 hSw; (try dsimp only at hSw); go_simp; try (with_reducible rfl))
            try simp only [Act.put]
            try simp only [List.setIfInBounds_toArray]
            try simp only [List.set_cons_succ]
            try simp only [List.set_cons_zero]
            refine takeOp (i := 3) (v := ?_) (some 122) rfl rfl (by kernel_rfl) (by kernel_rfl) (by kernel_rfl) (fun _ _ _ h => h) (Or.inl ⟨by rfl, ?_⟩) (by assumption) ?_
            rotate_left 1
            · (intro w0 hSw; (try dsimp only at hSw); go_simp; try (with_reducible rfl))
            try simp only [Act.put]
            try simp only [List.setIfInBounds_toArray]
            try simp only [List.set_cons_succ]
            try simp only [List.set_cons_zero]
            refine takeOp (i := 4) (v := ?_) (some 123) rfl rfl (by kernel_rfl) (by kernel_rfl) (by kernel_rfl) (fun _ _ _ h => h) (Or.inl ⟨by rfl, ?_⟩) (by assumption) ?_
            rotate_left 1
            · (intro w0 hSw; (try dsimp only at hSw); go_simp; try (with_reducible rfl))
            try simp only [Act.put]
            try simp only [List.setIfInBounds_toArray]
            try simp only [List.set_cons_succ]
            try simp only [List.set_cons_zero]
            refine takeOp (i := 5) (v := ?_) (some 124) rfl rfl (by kernel_rfl) (by kernel_rfl) (by kernel_rfl) (fun _ _ _ h => h) (Or.inl ⟨by rfl, ?_⟩) (by assumption) ?_
            rotate_left 1
            · (intro w0 hSw; (try dsimp only at hSw); go_simp; try (with_reducible rfl))
            try simp only [Act.put]
            try simp only [List.setIfInBounds_toArray]
            try simp only [List.set_cons_succ]
            try simp only [List.set_cons_zero]
            refine takeOp (i := 6) (v := undef) (some 125) rfl rfl (by kernel_rfl) (by kernel_rfl) (by kernel_rfl) (fun _ _ _ h => h) (Or.inr ⟨by rfl, rfl⟩) (by assumption) ?_
            try simp only [Act.put]
            try simp only [List.setIfInBounds_toArray]
            try simp only [List.set_cons_succ]
            try simp only [List.set_cons_zero]
            refine takeOp (i := 7) (v := undef) (some 126) rfl rfl (by kernel_rfl) (by kernel_rfl) (by kernel_rfl) (fun _ _ _ h => h) (Or.inr ⟨by rfl, rfl⟩) (by assumption) ?_
            try simp only [Act.put]
            try simp only [List.setIfInBounds_toArray]
            try simp only [List.set_cons_succ]
            try simp only [List.set_cons_zero]
            refine takeOp (i := 8) (v := undef) (some 127) rfl rfl (by kernel_rfl) (by kernel_rfl) (by kernel_rfl) (fun _ _ _ h => h) (Or.inr ⟨by rfl, rfl⟩) (by assumption) ?_
            try simp only [Act.put]
            try simp only [List.setIfInBounds_toArray]
            try simp only [List.set_cons_succ]
            try simp only [List.set_cons_zero]
            refine takeOp (i := 9) (v := undef) (some 128) rfl rfl (by kernel_rfl) (by kernel_rfl) (by kernel_rfl) (fun _ _ _ h => h) (Or.inr ⟨by rfl, rfl⟩) (by assumption) ?_
            try simp only [Act.put]
            try simp only [List.setIfInBounds_toArray]
            try simp only [List.set_cons_succ]
            try simp only [List.set_cons_zero]
            refine takeOp (i := 10) (v := undef) (some 129) rfl rfl (by kernel_rfl) (by kernel_rfl) (by kernel_rfl) (fun _ _ _ h => h) (Or.inr ⟨by rfl, rfl⟩) (by assumption) ?_
            try simp only [Act.put]
            try simp only [List.setIfInBounds_toArray]
            try simp only [List.set_cons_succ]
            try simp only [List.set_cons_zero]
            refine takeOp (i := 11) (v := undef) (some 130) rfl rfl (by kernel_rfl) (by kernel_rfl) (by kernel_rfl) (fun _ _ _ h => h) (Or.inr ⟨by rfl, rfl⟩) (by assumption) ?_
            try simp only [Act.put]
            try simp only [List.setIfInBounds_toArray]
            try simp only [List.set_cons_succ]
            try simp only [List.set_cons_zero]
            refine takeOp (i := 12) (v := undef) (some 131) rfl rfl (by kernel_rfl) (by kernel_rfl) (by kernel_rfl) (fun _ _ _ h => h) (Or.inr ⟨by rfl, rfl⟩) (by assumption) ?_
            try simp only [Act.put]
            try simp only [List.setIfInBounds_toArray]
            try simp only [List.set_cons_succ]
            try simp only [List.set_cons_zero]
            refine takeOp (i := 13) (v := undef) (some 132) rfl rfl (by kernel_rfl) (by kernel_rfl) (by kernel_rfl) (fun _ _ _ h => h) (Or.inr ⟨by rfl, rfl⟩) (by assumption) ?_
            try simp only [Act.put]
            try simp only [List.setIfInBounds_toArray]
            try simp only [List.set_cons_succ]
            try simp only [List.set_cons_zero]
            refine takeOp (i := 14) (v := undef) (some 133) rfl rfl (by kernel_rfl) (by kernel_rfl) (by kernel_rfl) (fun _ _ _ h => h) (Or.inr ⟨by rfl, rfl⟩) (by assumption) ?_
            try simp only [Act.put]
            try simp only [List.setIfInBounds_toArray]
            try simp only [List.set_cons_succ]
            try simp only [List.set_cons_zero]
            refine takeOp (i := 15) (v := undef) (some 134) rfl rfl (by kernel_rfl) (by kernel_rfl) (by kernel_rfl) (fun _ _ _ h => h) (Or.inr ⟨by rfl, rfl⟩) (by assumption) ?_
            try simp only [Act.put]
            try simp only [List.setIfInBounds_toArray]
            try simp only [List.set_cons_succ]
            try simp only [List.set_cons_zero]
            refine takeOp (i := 16) (v := undef) (some 135) rfl rfl (by kernel_rfl) (by kernel_rfl) (by kernel_rfl) (fun _ _ _ h => h) (Or.inr ⟨by rfl, rfl⟩) (by assumption) ?_
            try simp only [Act.put]
            try simp only [List.setIfInBounds_toArray]
            try simp only [List.set_cons_succ]
            try simp only [List.set_cons_zero]
            refine takeOp (i := 17) (v := undef) (some 136) rfl rfl (by kernel_rfl) (by kernel_rfl) (by kernel_rfl) (fun _ _ _ h => h) (Or.inr ⟨by rfl, rfl⟩) (by assumption) ?_
            try simp only [Act.put]
            try simp only [List.setIfInBounds_toArray]
            try simp only [List.set_cons_succ]
            try simp only [List.set_cons_zero]
            refine takeOp (i := 18) (v := ?_) (some 137) rfl rfl (by kernel_rfl) (by kernel_rfl) (by kernel_rfl) (fun _ _ _ h => h) (Or.inl ⟨by rfl, ?_⟩) (by assumption) ?_
            rotate_left 1
            · (intro w0 hSw; (try dsimp only at hSw); go_simp; try (with_reducible rfl))
            try simp only [Act.put]
            try simp only [List.setIfInBounds_toArray]
            try simp only [List.set_cons_succ]
            try simp only [List.set_cons_zero]
            refine wpAnyH_done (by kernel_rfl) ?_ _
            have hw2 : IntKind.i64.wrap ((i : Int) + 1) = ((i + 1 : Nat) : Int) := by rw [IntWalk.i64_in _ (by omega)]; omega
            clear hw1 q4 q5 q6 q7
            go_wp2
            go_roundw
            case rel => exact ⟨i + 1, hil, by go_num, HCN.out.then (Chg.of_ext (Ext.refl _).drew (F := fun _ => False)) fun _ _ h => absurd h id⟩
            case measure => simp [intOf]; omega
    · have HBR := Lib.hid (HCH.out.below (B := w.heap.size) (by have := HBW7.out.size; omega) HFB.out)
      go_wp2_with fail
      refine (l35awake_any wr).mono ?_
      rintro e w8 ⟨rfl, hb8⟩
      have hbw := Below.then HBW7.out (Below.then HBR.out hb8 (by have := HBW7.out.size; have := HBR.out.size; omega)) (Nat.le_refl _)
      clear hb8
      go_wp2
      go_ret
      exact ⟨rfl, hbw⟩

end Go.Proofs.Ytiomelogggilgaa

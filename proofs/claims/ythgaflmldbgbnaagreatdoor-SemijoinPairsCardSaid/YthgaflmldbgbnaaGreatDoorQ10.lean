/- Parts of the proof, merged: G21, GY2, GY3, G22, G23, G24. -/
import Derived.Test.YthgaflmldbgbnaaGreatDoorQ9
import Derived.Test.YthgaflmldbgbnaaGreatDoorQ6
import Derived.Test.YthgaflmldbgbnaaGreatDoorQ7

set_option maxRecDepth 100000
namespace Go.Proofs.YthgaflmldbgbnaaGreatDoor
section
open Go.RowKit Go.Sort
attribute [local go_sem] Oper.semAt_some

def zAts (n : Nat) : Array Value := madeCells zeroAt.cells (n * 3)
theorem makeAts (n : Nat) (hn : n ≤ 1000000) (w : World) : (Instr.makeSlice 25 (.int .i64 (n : Int)) (.int .i64 (n : Int))).run Tryz.prog w = .ok (.slice (some ⟨w.heap.size, 0, none⟩) n n) (w.alloc (.cells (zAts n) 36)) := by
  obtain ⟨i0, hi0, hz0, hz1, hz2⟩ := info_parts atomInfo
  have := run_make (P := Tryz.prog) w 25 36 i0 _ Tryz.underlying25 hi0 hz0 .i64 .i64 n n (by omega) (by omega) (by rw [hz2]; omega) (by omega)
  rw [this, hz1]
  rfl
theorem zAts_get (n i j : Nat) (hi : i < n) (hj : j < 3) : (zAts n).toList[i * 3 + j]? = ([.slice none 0 0, .int .i64 0, .slice none 0 0] : List Value)[j]? := by
  have h : i * 3 + j < n * 3 := by omega
  unfold zAts madeCells
  match j, hj with
  | 0, _ => have h0 : i * 3 < n * 3 := by omega
            simp [zeroAt, Value.cells, h0]
  | 1, _ => simp [zeroAt, Value.cells, h]
  | 2, _ => simp [zeroAt, Value.cells, h]
theorem AtP.zero (P : Nat → Prop) (B : Nat) (w : World) : AtP P B w (.agg #[.slice none 0 0, .int .i64 0, .slice none 0 0]) ⟨[], []⟩ :=
  ⟨none, 0, none, 0, rfl, Nat.le_refl _, by omega, Nat.le_refl _, by omega, fun _ _ => ⟨Sl.nil, SlRs.nil⟩⟩
theorem BlkA.zero (P : Nat → Prop) (n : Nat) (w : World) : BlkA P w.heap.size (w.alloc (.cells (zAts n) 36)) (List.replicate n ⟨[], []⟩) := by
  refine ⟨(zAts n).toList, ?_, ?_, fun i a hi => ?_⟩
  · have h := Row.new w 36 (zAts n).toList
    simpa using h
  · unfold zAts madeCells; simp
  · have hin : i < n := by have := (List.getElem?_eq_some_iff.1 hi).1; simpa using this
    have ha : a = ⟨[], []⟩ := by rw [List.getElem?_replicate, if_pos hin] at hi; injection hi with hi; exact hi.symm
    subst ha
    exact ⟨_, _, _, zAts_get n i 0 hin (by omega), zAts_get n i 1 hin (by omega), zAts_get n i 2 hin (by omega), AtP.zero _ _ _⟩

set_option maxHeartbeats 16000000 in
theorem sjReduce_ok (PA AA : Option Addr) (PC AC : Nat) (ps : List Int) (al : List At) (w : World) (hA : AtsM w.heap.size w AA (al.map At.ra)) (hgd : ∀ a ∈ al, Gd a) (hp : SlI .i64 w.heap.size w PA ps) (hl : ps.length = al.length) (hr : JT.rootedB ps = true) (hm : al.length ≤ 32) (X : Nat → At) (hX : X = fun i => al.getD i ⟨[], []⟩) :
    Calls Tryz.prog 39 #[.agg #[.slice PA ps.length PC], .slice AA al.length AC] w fun e w' => ∃ R RC, e = .returned (.tuple #[.slice (some ⟨R, 0, none⟩) al.length RC, .int .i64 0]) ∧ w.heap.size ≤ R ∧ BlkA (fun c => c ≠ R) R w' (mkL al.length X ((JT.orderF ps).foldr (dnS X ps) ((JT.orderF ps).foldl (upS X ps) (fun i => (X i).P)))) ∧ Below w.heap.size w w' := by
  have hlt : ∀ c ∈ JT.orderF ps, c < al.length := fun c hc => by have := (JT.orderF_is ps).1.lt hc; omega
  have hpar : ∀ c, c < al.length → JT.par ps c < (al.length : Int) ∧ -1 ≤ JT.par ps c := fun c hc => by
    have h1 := (JT.rooted_parts hr).1 ps[c] (List.getElem_mem (by omega))
    have h2 : JT.par ps c = ps[c] := by unfold JT.par; simp [show c < ps.length by omega]
    rw [h2]; omega
  have hol : (JT.orderF ps).length ≤ al.length := by have := (JT.orderF_is ps).1.length; omega
  have hpl : ps.length ≤ 1000000 := by omega
  have hopos : 0 < (JT.orderF ps).length := by
    rw [(JT.order_whole (JT.rooted_parts hr).1).2 (JT.rooted_parts hr).2.2]
    exact JT.rooted_pos hr
  have hXg : GdR al.length X (fun i => (X i).P) := fun i hi => by
    have : X i = al[i] := by rw [hX]; simp [hi]
    show Gd ⟨(X i).vs, (X i).P⟩
    rw [this]
    exact hgd _ (List.getElem_mem hi)
  obtain ⟨W0, hW0⟩ : ∃ W0, W0 = ((w.alloc (.cells #[.slice PA ps.length PC] 51)).alloc (.cells #[.slice none 0 0] 25)).alloc (.cells #[.int .i64 0] 37) := ⟨_, rfl⟩
  have hx0 : Ext w W0 := by rw [hW0]; exact (((Ext.refl w).alloc _).alloc _).alloc _
  have hrt : Row W0 w.heap.size 51 [.slice PA ps.length PC] := by rw [hW0]; exact ((Row.new w 51 _).alloc _).alloc _
  have hr4 : Row W0 (w.heap.size + 1) 25 [.slice none 0 0] := by
    have h := (Row.new (w.alloc (.cells #[.slice PA ps.length PC] 51)) 25 [.slice none 0 0]).alloc (.cells #[.int .i64 0] 37)
    rw [World.size_alloc] at h
    rw [hW0]; exact h
  have hr5 : Row W0 (w.heap.size + 1 + 1) 37 [.int .i64 0] := by
    have h := Row.new ((w.alloc (.cells #[.slice PA ps.length PC] 51)).alloc (.cells #[.slice none 0 0] 25)) 37 [.int .i64 0]
    rw [World.size_alloc, World.size_alloc] at h
    rw [hW0]; exact h
  have HA := Lib.hid (fun W (h : Below w.heap.size w W) => hA.upB h)
  have HPS := Lib.hid (fun W (h : Below w.heap.size w W) => (Sl.below hp h (Nat.le_refl _)).more h.size)
  have HGD := Lib.hid hgd
  have HLT := Lib.hid hlt
  have HPAR := Lib.hid hpar
  have HXE := Lib.hid hX
  have HXG := Lib.hid hXg
  have HX0 := Lib.hid hx0
  have HRT := Lib.hid hrt
  have HR4 := Lib.hid hr4
  have HR5 := Lib.hid hr5
  have HLL := Lib.hid hl
  have HWU := Lib.hid (fun W (h : Below W0.heap.size W0 W) => Below.then hx0.below h hx0.size)
  have HJO := Lib.hid (jtOrder_ok PA PC ps W0 (HPS.out W0 hx0.below) hpl hr)
  have z5 := hr5.lt
  have q0 : W0.cell? ⟨w.heap.size, 0, none⟩ = some (.slice PA ps.length PC) := hrt.cell 0
  have q1 := hrt.lt
  clear hA hgd hp hl hr hX hlt hpar hXg hx0 hrt hr4 hr5
  refine (callsIn_wide (n := 8)).1 (callsIn_of_wp_marks Tryz.func39 rfl trivial ?_ rfl)
  simp only [Tryz.ntmps39, List.size_toArray, List.length_cons, List.length_nil, Nat.reduceAdd, Nat.reduceSub, Array.replicate_succ, Array.replicate_zero, List.push_toArray, List.append_toArray, List.nil_append, List.cons_append]
  refine wpIn_wide.2 (wp_mono ?_ Calm.le)
  go_upto_region 1 with (fail)
  rw [← hW0]
  clear hW0
  go_wp2_with fail
  refine HJO.out.mono ?_
  rintro e W1 ⟨OA, OC, rfl, hso, hb1⟩
  have HSO := Lib.hid hso
  have HB1 := Lib.hid hb1
  clear hso hb1 HJO q0 q1
  obtain ⟨O, hO⟩ : ∃ O, O = JT.orderF ps := ⟨_, rfl⟩
  rw [← hO] at HLT HSO hol hopos ⊢
  have HOE := Lib.hid hO
  clear hO
  obtain ⟨m, hmE⟩ : ∃ m, m = al.length := ⟨_, rfl⟩
  rw [← hmE] at hm hol HLT HPAR HXG HLL ⊢
  have HME := Lib.hid hmE
  clear hmE
  obtain ⟨E, hE⟩ : ∃ E, E = W1.heap.size := ⟨_, rfl⟩
  obtain ⟨W2, hW2⟩ : ∃ W2, W2 = W1.alloc (.cells #[.int .i64 0] 37) := ⟨_, rfl⟩
  have HX2 : Hid (Ext W1 W2) := by show Ext _ _; rw [hW2]; exact (Ext.refl W1).alloc _
  have HRE : Hid (Row W2 E 37 [.int .i64 0]) := by show Row _ _ _ _; rw [hW2, hE]; exact Row.new W1 37 _
  have HE := Lib.hid hE
  have hmk := makeAts m (by omega) W2
  obtain ⟨R, hR⟩ : ∃ R, R = W2.heap.size := ⟨_, rfl⟩
  obtain ⟨W3, hW3⟩ : ∃ W3, W3 = W2.alloc (.cells (zAts m) 36) := ⟨_, rfl⟩
  have HX3 : Hid (Ext W2 W3) := by show Ext _ _; rw [hW3]; exact (Ext.refl W2).alloc _
  have HBK3 : Hid (∀ P : Nat → Prop, BlkA P R W3 (List.replicate m ⟨[], []⟩)) := fun P => by rw [hW3, hR]; exact BlkA.zero P m W2
  obtain ⟨B8, hB8⟩ : ∃ B8, B8 = W3.heap.size := ⟨_, rfl⟩
  obtain ⟨W4, hW4⟩ : ∃ W4, W4 = W3.alloc (.cells #[.slice (some ⟨R, 0, none⟩) m m] 25) := ⟨_, rfl⟩
  have HX4 : Hid (Ext W3 W4) := by show Ext _ _; rw [hW4]; exact (Ext.refl W3).alloc _
  have HR8 : Hid (Row W4 B8 25 [.slice (some ⟨R, 0, none⟩) m m]) := by show Row _ _ _ _; rw [hW4, hB8]; exact Row.new W3 25 _
  have HZ : Hid (w.heap.size + 1 + 1 < W1.heap.size ∧ E = W1.heap.size ∧ R = E + 1 ∧ B8 = R + 1 ∧ W4.heap.size = B8 + 1) := by
    have h1 := HB1.out.size
    refine ⟨by omega, hE, ?_, ?_, ?_⟩
    · rw [hR, hW2, hE]; simp
    · rw [hB8, hW3, hR]; simp
    · rw [hW4, hB8]; simp
  have HX14 : Hid (Ext W1 W4) := (HX2.out.trans HX3.out).trans HX4.out
  have HW2E := Lib.hid hW2
  have HW3E := Lib.hid hW3
  have HW4E := Lib.hid hW4
  have HRR := Lib.hid hR
  have HB8E := Lib.hid hB8
  clear hE hR hB8 hW2 hW3 hW4
  go_upto_region 2 with (fail)
  rw [← HW2E.out, ← HE.out]
  have e0 : W2.cell? ⟨E, 0, none⟩ = some (.int .i64 0) := HRE.out.cell 0
  have e1 := HRE.out.lt
  go_upto_region 5 with (fail)
  rw [← HW3E.out, ← HRR.out, ← HZ.out.2.2.2.1, ← HW4E.out]
  clear HW2E HW3E HW4E HRR HB8E hmk e0 e1
  obtain ⟨PP, hPP⟩ : ∃ PP : Nat → Prop, PP = fun c => c ≠ R ∧ c ≠ E ∧ c ≠ w.heap.size + 1 ∧ c ≠ w.heap.size + 1 + 1 := ⟨_, rfl⟩
  have HPN : Hid (¬ PP R ∧ ¬ PP E ∧ ¬ PP (w.heap.size + 1) ∧ ¬ PP (w.heap.size + 1 + 1)) := by rw [hPP]; exact ⟨fun h => h.1 rfl, fun h => h.2.1 rfl, fun h => h.2.2.1 rfl, fun h => h.2.2.2 rfl⟩
  have HPO : Hid (∀ c, c < w.heap.size ∨ B8 < c → PP c) := fun c hc => by
    rw [hPP]
    have := HZ.out
    refine ⟨?_, ?_, ?_, ?_⟩ <;> omega
  have HPR : Hid (∀ c, PP c → c ≠ R) := fun c hc => by rw [hPP] at hc; exact hc.1
  clear hPP
  have HBK4 : Hid (BlkA PP R W4 (List.replicate m ⟨[], []⟩)) := (HBK3.out PP).keep HX4.out.below
  have HB4 : Hid (Below W0.heap.size W0 W4) := Below.then HB1.out HX14.out.below HB1.out.size
  clear HBK3
  go_wp2_with fail
  go_loopw [30] (fun c wx => ∃ k : Nat, k ≤ m ∧ c = .int .i64 k ∧ BlkA PP R wx (al.take k ++ List.replicate (m - k) ⟨[], []⟩) ∧ Below W1.heap.size W1 wx ∧ Row wx B8 25 [.slice (some ⟨R, 0, none⟩) m m] ∧ Row wx E 37 [.int .i64 0]) (fun c _ => m - (intOf c).toNat)
  case atStart => exact ⟨0, Nat.zero_le _, rfl, by rw [List.take_zero, List.nil_append]; exact HBK4.out, HX14.out.below, HR8.out, HRE.out.up (HX3.out.trans HX4.out).below⟩
  case round =>
    obtain ⟨k, hk, rfl, hblk, hbw, hr8, hre⟩ := hrel
    have HBK := Lib.hid hblk
    have HB := Lib.hid hbw
    have HR8k := Lib.hid hr8
    have HREk := Lib.hid hre
    have HBA : Hid (Below W0.heap.size W0 wr) := Below.then HB1.out hbw HB1.out.size
    have HBX : Hid (Below w.heap.size w wr) := HWU.out wr HBA.out
    have c8 : wr.cell? ⟨B8, 0, none⟩ = some (.slice (some ⟨R, 0, none⟩) m m) := hr8.cell 0
    have c9 := hr8.lt
    clear hblk hbw hr8 hre HBK4 HR8
    by_cases hkl : k < m
    rotate_left
    · obtain rfl : k = m := by omega
      have r1 : ¬ (k : Int) < (k : Int) := by omega
      have HAL : Hid (al.take k ++ List.replicate (k - k) (⟨[], []⟩ : At) = mkL k X fun i => (X i).P) := by
        show _ = _
        rw [Nat.sub_self, List.replicate_zero, List.append_nil, List.take_of_length_le (by have := HME.out; omega)]
        refine List.ext_getElem? fun i => ?_
        by_cases hi : i < k
        · have hi2 : i < al.length := by rw [← HME.out]; exact hi
          rw [mkL_get hi, List.getElem?_eq_getElem hi2]
          have : X i = al[i] := by rw [HXE.out]; simp [hi2]
          show _ = some (X i)
          rw [this]
        · rw [List.getElem?_eq_none (by rw [← HME.out]; omega), List.getElem?_eq_none (by rw [mkL_len]; omega)]
      rw [HAL.out] at HBK
      clear HAL
      go_wp2_with fail
      obtain ⟨wq, hwq⟩ : ∃ wq, wq = wr := ⟨_, rfl⟩
      subst hwq
      go_loopw [47] (fun i wx => ∃ j : Nat, j ≤ O.length ∧ i = .int .i64 j ∧ BlkA PP R wx (mkL k X ((O.take j).foldl (upS X ps) fun i => (X i).P)) ∧ GdR k X ((O.take j).foldl (upS X ps) fun i => (X i).P) ∧ Below W1.heap.size W1 wx ∧ Row wx B8 25 [.slice (some ⟨R, 0, none⟩) k k] ∧ Row wx E 37 [.int .i64 0]) (fun i _ => O.length - (intOf i).toNat)
      case atStart => exact ⟨0, Nat.zero_le _, rfl, HBK.out, HXG.out, HB.out, HR8k.out, HREk.out⟩
      case round =>
        obtain ⟨j, hj, rfl, hblk, hgd, hbw, hr8, hre⟩ := hrel
        have HBJ := Lib.hid hblk
        have HGJ := Lib.hid hgd
        have HBB := Lib.hid hbw
        have HR8j := Lib.hid hr8
        have HREj := Lib.hid hre
        have HBAj : Hid (Below W0.heap.size W0 wr) := Below.then HB1.out hbw HB1.out.size
        have HBXj : Hid (Below w.heap.size w wr) := HWU.out wr HBAj.out
        have c8 : wr.cell? ⟨B8, 0, none⟩ = some (.slice (some ⟨R, 0, none⟩) k k) := hr8.cell 0
        have c9 := hr8.lt
        have ht := HRT.out.up HBAj.out
        have t0 : wr.cell? ⟨w.heap.size, 0, none⟩ = some (.slice PA ps.length PC) := ht.cell 0
        have t1 := ht.lt
        clear hblk hgd hbw hr8 hre ht
        by_cases hjl : j < O.length
        rotate_left
        · obtain rfl : j = O.length := by omega
          have s1 : ¬ (O.length : Int) < (O.length : Int) := by omega
          rw [List.take_length] at HBJ HGJ
          obtain ⟨RU, hRU⟩ : ∃ RU, RU = O.foldl (upS X ps) (fun i => (X i).P) := ⟨_, rfl⟩
          rw [← hRU] at HBJ HGJ
          have HRUE := Lib.hid hRU
          clear hRU
          clear c8 c9 t0 t1
          obtain ⟨ob, oo, hoa, hob, -⟩ := Sl.at_ HSO.out (k := 0) (by unfold natV; rw [List.length_map]; exact hopos)
          subst hoa
          obtain ⟨W6, hW6⟩ : ∃ W6, W6 = wr.alloc (.cells #[.slice (some ⟨ob, oo, none⟩) O.length OC] 27) := ⟨_, rfl⟩
          obtain ⟨Bn, hBn⟩ : ∃ Bn, Bn = wr.heap.size := ⟨_, rfl⟩
          have hx6 : Ext wr W6 := by rw [hW6]; exact (Ext.refl wr).alloc _
          have hrn : Row W6 Bn 27 [.slice (some ⟨ob, oo, none⟩) O.length OC] := by rw [hW6, hBn]; exact Row.new wr 27 _
          have hzz := HZ.out
          have hwz : W4.heap.size ≤ wr.heap.size ∨ True := .inr trivial
          have hBz : B8 < wr.heap.size := HR8j.out.lt
          have hz6 : Bn + 1 = W6.heap.size := by rw [hW6, hBn]; simp
          obtain ⟨F0, hF0⟩ : ∃ F0 : Nat → Prop, F0 = fun b => b = R ∨ b = E ∨ W6.heap.size ≤ b := ⟨_, rfl⟩
          have hB61 : Below W1.heap.size W1 W6 := Below.then HBB.out hx6.below HBB.out.size
          have HSTOP := Lib.hid (backward_stops 5 Bn ob oo OC (by decide) O F0 (by rw [hF0]; intro h; omega) (by rw [hF0]; intro h; have := hB61.size; omega) (by omega) W6 hrn.lt (by have := hB61.size; omega) (hrn.cell 0) (fun i hi => by
            have h1 := Sl.at_ HSO.out (k := i) (by unfold natV; rw [List.length_map]; exact hi)
            obtain ⟨ob', oo', e, hb', hc'⟩ := h1
            injection e with e
            injection e with e1 e2
            subst e1 e2
            rw [hB61.cell (p := ⟨ob, oo + i, none⟩) hb', hc']
            simp [natV, hi]))
          have HF0 := Lib.hid hF0
          have HI0 : Hid (BlkA PP R W6 (mkL k X RU) ∧ GdR k X RU ∧ Below W1.heap.size W1 W6 ∧ Row W6 B8 25 [.slice (some ⟨R, 0, none⟩) k k] ∧ Row W6 E 37 [.int .i64 0]) := ⟨HBJ.out.keep hx6.below, HGJ.out, hB61, HR8j.out.up hx6.below, HREj.out.up hx6.below⟩
          have HZ6 : Hid (Bn + 1 = W6.heap.size ∧ Bn = wr.heap.size ∧ B8 < wr.heap.size) := ⟨hz6, hBn, hBz⟩
          have HW6 := Lib.hid hW6
          clear hW6 hx6 hrn hzz hwz hBz hz6 hF0 hB61
          go_wp2_with (go_at_call 64; refine (slBackward_any _ _ _ _).mono ?_; rintro e w' ⟨rfl, rfl⟩)
          rw [← HW6.out, ← hBn]
          refine (wpIn_wide (n := 6)).1 ?_
          refine wpIn_rangeFunc_ownG (α := Nat) (F := Fence.wide) (n := 6) rfl (by decide) (gf := 85) (lb := #[.pointer (some ⟨Bn, 0, none⟩)]) rfl trivial (enters_of Tryz.func85 (by kernel_rfl) rfl) HSTOP.out (fun h k => h.trans k) (Turns.put (fun b hb => by rw [HF0.out]; exact .inr (.inr hb))) (Below.refl _ _) (fun _ => rfl)
            (fun (pre : List Nat) W => BlkA PP R W (mkL k X (pre.foldl (fun RF i => dnS X ps (O[i]?.getD 0) RF) RU)) ∧ GdR k X (pre.foldl (fun RF i => dnS X ps (O[i]?.getD 0) RF) RU) ∧ Below W1.heap.size W1 W ∧ Row W B8 25 [.slice (some ⟨R, 0, none⟩) k k] ∧ Row W E 37 [.int .i64 0]) (fun _ _ _ => False)
            (fun s A B row hs hg hr => ⟨hs.1.own hg fun r e => (hr r e).2, hs.2.1, hs.2.2.1.grown hg (by have := hs.2.2.1.size; exact this) (fun r e => by have h1 := (hr r e).1; have h2 := HZ6.out; have h3 := HZ.out; omega), hs.2.2.2.1.own hg fun r e => (hr r e).2, hs.2.2.2.2.own hg fun r e => (hr r e).2⟩)
            (fun _ _ _ _ _ hs _ _ => hs) HI0.out ?a1 ?assign ?body ?done ?stop
          case assign =>
            intro l x W K hK
            unfold encB
            gi_wp2
            exact hK
          case body =>
            rintro l pre x W ⟨i1, i2, i3, i4, i5⟩ _
            have HBJ := Lib.hid i1
            have HGJ := Lib.hid i2
            have HBB := Lib.hid i3
            have HR8j := Lib.hid i4
            have HREj := Lib.hid i5
            have HBAj : Hid (Below W0.heap.size W0 W) := Below.then HB1.out i3 HB1.out.size
            have HBXj : Hid (Below w.heap.size w W) := HWU.out W HBAj.out
            have c8 : W.cell? ⟨B8, 0, none⟩ = some (.slice (some ⟨R, 0, none⟩) k k) := i4.cell 0
            have c9 := i4.lt
            have ht := HRT.out.up HBAj.out
            have t0 : W.cell? ⟨w.heap.size, 0, none⟩ = some (.slice PA ps.length PC) := ht.cell 0
            have t1 := ht.lt
            obtain ⟨RF, hRF⟩ : ∃ RF, RF = pre.foldl (fun RF i => dnS X ps (O[i]?.getD 0) RF) RU := ⟨_, rfl⟩
            rw [← hRF] at HBJ HGJ
            have HFO : Hid ((pre ++ [x]).foldl (fun RF i => dnS X ps (O[i]?.getD 0) RF) RU = dnS X ps (O[x]?.getD 0) RF) := by show _ = _; rw [List.foldl_append, hRF]; rfl
            have hcm : O[x]?.getD 0 < k := by
              rcases Nat.lt_or_ge x O.length with h | h
              · rw [List.getElem?_eq_getElem h]; exact HLT.out _ (List.getElem_mem h)
              · rw [List.getElem?_eq_none h]
                have := HLT.out _ (List.getElem_mem hopos)
                show 0 < k
                omega
            clear i1 i2 i3 i4 i5 ht hRF
            generalize O[x]?.getD 0 = c at *
            have hpc := HPAR.out c hcm
            have hcl : c < ps.length := by rw [HLL.out]; exact hcm
            obtain ⟨pb, po, hpa, hpb, pc⟩ := slI_at (HPS.out w (Below.refl _ _)) hcl
            have hpe : ps[c] = JT.par ps c := by unfold JT.par; simp [hcl]
            rw [hpe] at pc
            subst hpa
            have pc := (HBXj.out.cell (p := ⟨pb, po + c, none⟩) hpb).trans pc
            have hpb2 : pb < W.heap.size := Nat.lt_of_lt_of_le hpb HBXj.out.size
            have v0 : (0 : Int) ≤ (c : Int) := by omega
            have v1 : (c : Int) < (ps.length : Int) := by omega
            have v2 : (c : Int) < (k : Int) := by omega
            clear hpe hcl
            by_cases hneg : JT.par ps c < 0
            · have HUP2 := Lib.hid (dn_root (X := X) (R := RF) hneg)
              have hd : decide ((0 : Int) ≤ JT.par ps c) = false := decide_eq_false (by omega)
              generalize JT.par ps c = pp at *
              clear hneg
              gi_wp2
              exact ⟨KeepsFrom.refl _ _, Turns.refl _ _, by rw [HFO.out, HUP2.out]; exact HBJ.out, by rw [HFO.out, HUP2.out]; exact HGJ.out, HBB.out, HR8j.out, HREj.out⟩
            obtain ⟨pn, hpn⟩ := Int.eq_ofNat_of_zero_le (show 0 ≤ JT.par ps c by omega)
            have hpm : pn < k := by omega
            have HMK := Lib.hid (mkL_dn (m := k) (X := X) (R := RF) hpn hcm)
            have hd : decide ((0 : Int) ≤ (pn : Int)) = true := decide_eq_true (by omega)
            rw [hpn] at pc
            have HGN := Lib.hid (HGJ.out.dn (ps := ps) c)
            clear hneg hpc hpn
            have w0' : (0 : Int) ≤ (pn : Int) := by omega
            have w1' : (pn : Int) < (k : Int) := by omega
            obtain ⟨VA, VC, QA, QC, p0, p1, p2, hap⟩ := HBJ.out.at_ (mkL_get hcm)
            obtain ⟨VB, VD, QB, QD, b0, b1, b2, hac⟩ := HBJ.out.at_ (mkL_get hpm)
            simp only at p0 p1 p2 b0 b1 b2
            have hRz := HBJ.out.lt
            have HSM := Lib.hid (sjSemi_ok _ _ _ _ W.drew (show AtV W.drew _ _ from hap.v) (show AtV W.drew _ _ from hac.v) (HGJ.out c hcm) (HGJ.out pn hpm))
            clear hap hac
            gi_wp2
            refine region_roundS (by kernel_rfl) (fun ⟨_, _, h⟩ => h) (S := (fun w' => (w'.cell? ⟨B8, 0, none⟩ = some (.slice (some ⟨R, 0, none⟩) k k) ∧ (w'.cell? ⟨R, c * 3, none⟩ = some (.slice VA (X c).vs.length VC) ∧ w'.cell? ⟨R, c * 3 + 1, none⟩ = some (.int .i64 ((X c).vs.length : Nat)) ∧ w'.cell? ⟨R, c * 3 + 2, none⟩ = some (.slice QA (RF c).length QC))) ∧ w'.cell? ⟨R, pn * 3, none⟩ = some (.slice VB (X pn).vs.length VD) ∧ w'.cell? ⟨R, pn * 3 + 1, none⟩ = some (.int .i64 ((X pn).vs.length : Nat)) ∧ w'.cell? ⟨R, pn * 3 + 2, none⟩ = some (.slice QB (RF pn).length QD))) [15, 16] (by kernel_rfl) ⟨⟨c8, p0, p1, p2⟩, b0, b1, b2⟩ (fun hHeld => ?_)
            refine takeS (i := 0) (v := ?_) (some 89) rfl rfl (by kernel_rfl) (by decide) (by kernel_rfl) (by kernel_rfl) (by kernel_rfl) (by kernel_rfl) (fun _ _ _ h => h) (Or.inl ⟨by rfl, ?_⟩) (by assumption) ?_
            rotate_left 1
            · (intro w0 hSw; (try dsimp only at hSw); go_simp; try (with_reducible rfl))
            try simp only [Act.put, List.setIfInBounds_toArray, List.set_cons_succ, List.set_cons_zero]
            refine takeS (i := 1) (v := ?_) (some 90) rfl rfl (by kernel_rfl) (by decide) (by kernel_rfl) (by kernel_rfl) (by kernel_rfl) (by kernel_rfl) (fun _ _ _ h => h) (Or.inl ⟨by rfl, ?_⟩) (by assumption) ?_
            rotate_left 1
            · (intro w0 hSw; (try dsimp only at hSw); go_simp; try (with_reducible rfl))
            try simp only [Act.put, List.setIfInBounds_toArray, List.set_cons_succ, List.set_cons_zero]
            refine takeS (i := 2) (v := ?_) (some 91) rfl rfl (by kernel_rfl) (by decide) (by kernel_rfl) (by kernel_rfl) (by kernel_rfl) (by kernel_rfl) (fun _ _ _ h => h) (Or.inl ⟨by rfl, ?_⟩) (by assumption) ?_
            rotate_left 1
            · (intro w0 hSw; (try dsimp only at hSw); go_simp; try (with_reducible rfl))
            try simp only [Act.put, List.setIfInBounds_toArray, List.set_cons_succ, List.set_cons_zero]
            refine takeS (i := 3) (v := ?_) (some 92) rfl rfl (by kernel_rfl) (by decide) (by kernel_rfl) (by kernel_rfl) (by kernel_rfl) (by kernel_rfl) (fun _ _ _ h => h) (Or.inl ⟨by rfl, ?_⟩) (by assumption) ?_
            rotate_left 1
            · (intro w0 hSw; (try dsimp only at hSw); go_simp; try (with_reducible rfl))
            try simp only [Act.put, List.setIfInBounds_toArray, List.set_cons_succ, List.set_cons_zero]
            refine takeS (i := 4) (v := ?_) (some 93) rfl rfl (by kernel_rfl) (by decide) (by kernel_rfl) (by kernel_rfl) (by kernel_rfl) (by kernel_rfl) (fun _ _ _ h => h) (Or.inl ⟨by rfl, ?_⟩) (by assumption) ?_
            rotate_left 1
            · (intro w0 hSw; (try dsimp only at hSw); go_simp; try (with_reducible rfl))
            try simp only [Act.put, List.setIfInBounds_toArray, List.set_cons_succ, List.set_cons_zero]
            refine takeS (i := 5) (v := ?_) (some 94) rfl rfl (by kernel_rfl) (by decide) (by kernel_rfl) (by kernel_rfl) (by kernel_rfl) (by kernel_rfl) (fun _ _ _ h => h) (Or.inl ⟨by rfl, ?_⟩) (by assumption) ?_
            rotate_left 1
            · (intro w0 hSw; (try dsimp only at hSw); go_simp; try (with_reducible rfl))
            try simp only [Act.put, List.setIfInBounds_toArray, List.set_cons_succ, List.set_cons_zero]
            refine takeS (i := 6) (v := ?_) (some 95) rfl rfl (by kernel_rfl) (by decide) (by kernel_rfl) (by kernel_rfl) (by kernel_rfl) (by kernel_rfl) (fun _ _ _ h => h) (Or.inl ⟨by rfl, ?_⟩) (by assumption) ?_
            rotate_left 1
            · (intro w0 hSw; (try dsimp only at hSw); go_simp; try (with_reducible rfl))
            try simp only [Act.put, List.setIfInBounds_toArray, List.set_cons_succ, List.set_cons_zero]
            refine takeS (i := 7) (v := ?_) (some 96) rfl rfl (by kernel_rfl) (by decide) (by kernel_rfl) (by kernel_rfl) (by kernel_rfl) (by kernel_rfl) (fun _ _ _ h => h) (Or.inl ⟨by rfl, ?_⟩) (by assumption) ?_
            rotate_left 1
            · (intro w0 hSw; (try dsimp only at hSw); go_simp; try (with_reducible rfl))
            try simp only [Act.put, List.setIfInBounds_toArray, List.set_cons_succ, List.set_cons_zero]
            refine takeS (i := 8) (v := ?_) (some 97) rfl rfl (by kernel_rfl) (by decide) (by kernel_rfl) (by kernel_rfl) (by kernel_rfl) (by kernel_rfl) (fun _ _ _ h => h) (Or.inl ⟨by rfl, ?_⟩) (by assumption) ?_
            rotate_left 1
            · (intro w0 hSw; (try dsimp only at hSw); go_simp; try (with_reducible rfl))
            try simp only [Act.put, List.setIfInBounds_toArray, List.set_cons_succ, List.set_cons_zero]
            refine takeS (i := 9) (v := ?_) (some 98) rfl rfl (by kernel_rfl) (by decide) (by kernel_rfl) (by kernel_rfl) (by kernel_rfl) (by kernel_rfl) (fun _ _ _ h => h) (Or.inl ⟨by rfl, ?_⟩) (by assumption) ?_
            rotate_left 1
            · (intro w0 hSw; (try dsimp only at hSw); go_simp; try (with_reducible rfl))
            try simp only [Act.put, List.setIfInBounds_toArray, List.set_cons_succ, List.set_cons_zero]
            refine oneS (i := 10) (by kernel_rfl) rfl (fun K hK => ?_)
            go_simp
            refine HSM.out.mono ?_
            rintro e V1 ⟨v1, rfl, hat, hb⟩
            have hbv : Below W.heap.size W V1 := Below.undrew hb
            have HV1 := Lib.hid hbv
            have hv := fun (p : Addr) (hp : p.block < W.heap.size) => hbv.cell (p := p) hp
            have KEEP := (⟨⟨(hv _ c9).trans c8, (hv ⟨R, c * 3, none⟩ hRz).trans p0, (hv ⟨R, c * 3 + 1, none⟩ hRz).trans p1, (hv ⟨R, c * 3 + 2, none⟩ hRz).trans p2⟩, (hv ⟨R, pn * 3, none⟩ hRz).trans b0, (hv ⟨R, pn * 3 + 1, none⟩ hRz).trans b1, (hv ⟨R, pn * 3 + 2, none⟩ hRz).trans b2⟩ : (_ ∧ _ ∧ _ ∧ _) ∧ _ ∧ _ ∧ _)
            have HAT := Lib.hid hat
            obtain ⟨SA, SC, TA, TC, rfl, -, -, -, -, -⟩ := hat
            have HBKV := Lib.hid (HBJ.out.keep hbv)
            have HR8V := Lib.hid (HR8j.out.up hbv)
            have HREV := Lib.hid (HREj.out.up hbv)
            have hf0 := HBKV.out.frozen (c * 3)
            have hf1 := HBKV.out.frozen (c * 3 + 1)
            have hf2 := HBKV.out.frozen (c * 3 + 2)
            have hfR := HBKV.out.lt
            have hg0 := HREV.out.frozen 0
            have hg1 := HREV.out.lt
            have hg2 : V1.cell? ⟨E, 0, none⟩ = some (.int .i64 0) := HREV.out.cell 0
            have hk0 := KEEP.1.2.1
            have hk1 := KEEP.1.2.2.1
            have hk2 := KEEP.1.2.2.2
            have hER : E < R := by have := HZ.out; omega
            clear hb hbv hv
            go_wp2_with fail
            refine hK.out _ _ KEEP (fun hHeld => ?_)
            clear hK K
            try simp only [Act.put, List.setIfInBounds_toArray, List.set_cons_succ, List.set_cons_zero]
            refine takeS (i := 11) (v := ?_) (some 88) rfl rfl (by kernel_rfl) (by decide) (by kernel_rfl) (by kernel_rfl) (by kernel_rfl) (by kernel_rfl) (fun _ _ _ h => h) (Or.inl ⟨by rfl, ?_⟩) (by assumption) ?_
            rotate_left 1
            · (intro w0 hSw; (try dsimp only at hSw); go_simp; try (with_reducible rfl))
            try simp only [Act.put, List.setIfInBounds_toArray, List.set_cons_succ, List.set_cons_zero]
            refine takeFree (i := 12) (v := ?_) (some 100) rfl rfl (by kernel_rfl) (by kernel_rfl) (by kernel_rfl) (fun _ _ _ h => h) (Or.inl ⟨by rfl, ?_⟩) ?_
            rotate_left 1
            · (intro w0 hSw; (try dsimp only at hSw); go_simp; try (with_reducible rfl))
            try simp only [Act.put, List.setIfInBounds_toArray, List.set_cons_succ, List.set_cons_zero]
            refine takeFree (i := 13) (v := ?_) (some 101) rfl rfl (by kernel_rfl) (by kernel_rfl) (by kernel_rfl) (fun _ _ _ h => h) (Or.inl ⟨by rfl, ?_⟩) ?_
            rotate_left 1
            · (intro w0 hSw; (try dsimp only at hSw); go_simp; try (with_reducible rfl))
            try simp only [Act.put, List.setIfInBounds_toArray, List.set_cons_succ, List.set_cons_zero]
            refine takeS (i := 14) (v := ?_) (some 102) rfl rfl (by kernel_rfl) (by decide) (by kernel_rfl) (by kernel_rfl) (by kernel_rfl) (by kernel_rfl) (fun _ _ _ h => h) (Or.inl ⟨by rfl, ?_⟩) (by assumption) ?_
            rotate_left 1
            · (intro w0 hSw; (try dsimp only at hSw); go_simp; try (with_reducible rfl))
            try simp only [Act.put, List.setIfInBounds_toArray, List.set_cons_succ, List.set_cons_zero]
            refine oneL (i := 15) (by kernel_rfl) rfl (by decide) (fun K hK => ?_)
            go_simp
            go_wp2_with fail
            refine hK.out _ _ ?_
            clear hK K
            try simp only [Act.put, List.setIfInBounds_toArray, List.set_cons_succ, List.set_cons_zero]
            refine oneL (i := 16) (by kernel_rfl) rfl (by decide) (fun K hK => ?_)
            go_simp
            go_wp2_with fail
            refine hK.out _ _ ?_
            clear hK K
            try simp only [Act.put, List.setIfInBounds_toArray, List.set_cons_succ, List.set_cons_zero]
            refine doneS (by kernel_rfl) ?_ _
            obtain ⟨V7, hV7⟩ : ∃ V', V' = (((V1.setCell ⟨R, c * 3, none⟩ (.slice SA (X c).vs.length SC)).setCell ⟨R, c * 3 + 1, none⟩ (.int .i64 ((X c).vs.length : Nat))).setCell ⟨R, c * 3 + 2, none⟩ (.slice TA (semiF ⟨(X c).vs, RF c⟩ ⟨(X pn).vs, RF pn⟩).length TC)).setCell ⟨E, 0, none⟩ (.int .i64 0) := ⟨_, rfl⟩
            rw [← hV7]
            have hzz := HZ.out
            have hwz : B8 < W.heap.size := c9
            have HBK7 : Hid (BlkA PP R V7 (mkL k X (dnS X ps c RF))) := by
              rw [hV7, ← HMK.out]
              exact (HBKV.out.set HPN.out.1 (by rw [mkL_len]; exact hcm) (HAT.out.keep (fun _ _ _ => rfl) (Nat.le_refl _) fun b _ hb => HPO.out b (.inr (by have hb' : W.heap.size + 3 ≤ b := hb; omega)))).far (by show R ≠ E; omega) HPN.out.2.1 _
            have HB7 : Hid (Below W1.heap.size W1 V7) := by
              rw [hV7]
              have hb := Below.then HBB.out HV1.out HBB.out.size
              exact (((hb.setCell (by show W1.heap.size ≤ R; omega) _).setCell (by show W1.heap.size ≤ R; omega) _).setCell (by show W1.heap.size ≤ R; omega) _).setCell (by show W1.heap.size ≤ E; omega) _
            have HR87 : Hid (Row V7 B8 25 [.slice (some ⟨R, 0, none⟩) k k]) := by
              show Row _ _ _ _
              rw [hV7]
              exact (((HR8V.out.far (by show B8 ≠ R; omega) _).far (by show B8 ≠ R; omega) _).far (by show B8 ≠ R; omega) _).far (by show B8 ≠ E; omega) _
            have HRE7 : Hid (Row V7 E 37 [.int .i64 0]) := by
              show Row _ _ _ _
              rw [hV7]
              exact (((HREV.out.far (by show E ≠ R; omega) _).far (by show E ≠ R; omega) _).far (by show E ≠ R; omega) _).set 0 (.int .i64 0)
            have HKF : Hid (KeepsFrom W6.heap.size W V7 ∧ Turns F0 W V7) := by
              have hT : Turns F0 W V7 := by
                rw [hV7]
                have h1 : F0 R := by rw [HF0.out]; exact .inl rfl
                have h2 : F0 E := by rw [HF0.out]; exact .inr (.inl rfl)
                exact ((((Turns.below HV1.out).trans (Turns.set _ h1 _)).trans (Turns.set _ h1 _)).trans (Turns.set _ h1 _)).trans (Turns.set _ h2 _)
              refine ⟨⟨hT.1, fun i o hB hi hn => ?_⟩, hT⟩
              have hil : i < W.heap.size := (Array.getElem?_eq_some_iff.1 hi).1
              have hiR : i ≠ R := by have := HZ6.out; omega
              have hiE : i ≠ E := by have := HZ6.out; omega
              rw [hV7, Below.heap_setCell _ _ _ _ hiE, Below.heap_setCell _ _ _ _ hiR, Below.heap_setCell _ _ _ _ hiR, Below.heap_setCell _ _ _ _ hiR, HV1.out.block i hil]
              exact hi
            have hE7 : V7.cell? ⟨E, 0, none⟩ = some (.int .i64 0) := HRE7.out.cell 0
            have hE8 := HRE7.out.lt
            clear hV7 hzz hwz hf0 hf1 hf2 hfR hg0 hg1 hg2 hk0 hk1 hk2
            gi_wp2
            exact ⟨HKF.out.1, HKF.out.2, by rw [HFO.out]; exact HBK7.out, by rw [HFO.out]; exact HGN.out, HB7.out, HR87.out, HRE7.out⟩
          case done =>
            rintro D xs W hD rfl ⟨i1, i2, i3, i4, i5⟩ hdef
            have hfl : ((List.range O.length).reverse).foldl (fun RF i => dnS X ps (O[i]?.getD 0) RF) RU = O.foldr (dnS X ps) RU := by
              rw [List.foldl_reverse]
              have e : O = (List.range O.length).map fun i => O[i]?.getD 0 := List.ext_getElem (by simp) fun i h1 h2 => by simp [h1]
              conv => rhs; rw [e, List.foldr_map]
            rw [hfl] at i1
            have HBAw : Hid (Below W0.heap.size W0 W) := Below.then HB1.out i3 HB1.out.size
            have r4 := HR4.out.up HBAw.out
            have r5 := HR5.out.up HBAw.out
            have c8 : W.cell? ⟨B8, 0, none⟩ = some (.slice (some ⟨R, 0, none⟩) k k) := i4.cell 0
            have c9 := i4.lt
            have m0 : W.cell? ⟨w.heap.size + 1, 0, none⟩ = some (.slice none 0 0) := r4.cell 0
            have m1 := r4.frozen 0
            have m2 := r4.lt
            have m3 : W.cell? ⟨w.heap.size + 1 + 1, 0, none⟩ = some (.int .i64 0) := r5.cell 0
            have m4 := r5.frozen 0
            have m5 := r5.lt
            have I1 := Lib.hid i1
            have I3 := Lib.hid i3
            have HR4w := Lib.hid r4
            have HR5w := Lib.hid r5
            have HDF := Lib.hid hdef
            have HDL := Lib.hid hD
            clear i1 i2 i3 i4 i5 r4 r5 hdef hD hfl
            go_wp2_with fail
            obtain ⟨V8, hV8⟩ : ∃ V, V = (W.setCell ⟨w.heap.size + 1, 0, none⟩ (.slice (some ⟨R, 0, none⟩) k k)).setCell ⟨w.heap.size + 1 + 1, 0, none⟩ (.int .i64 0) := ⟨_, rfl⟩
            rw [← hV8]
            have hzz := HZ.out
            have hz6 := HZ6.out
            have hdl := HDL.out
            have hD8 : V8.heap[D]? = some (.deferred (some [])) := by
              rw [hV8, Below.heap_setCell _ _ _ _ (by show D ≠ w.heap.size + 1 + 1; omega), Below.heap_setCell _ _ _ _ (by show D ≠ w.heap.size + 1; omega)]
              exact HDF.out
            have hr4 : Row V8 (w.heap.size + 1) 25 [.slice (some ⟨R, 0, none⟩) k k] := by
              rw [hV8]
              exact (HR4w.out.set 0 (.slice (some ⟨R, 0, none⟩) k k)).far (by show w.heap.size + 1 ≠ w.heap.size + 1 + 1; omega) _
            have hr5 : Row V8 (w.heap.size + 1 + 1) 37 [.int .i64 0] := by
              rw [hV8]
              exact (HR5w.out.far (by show w.heap.size + 1 + 1 ≠ w.heap.size + 1; omega) _).set 0 (.int .i64 0)
            have hblk : BlkA PP R V8 (mkL k X (O.foldr (dnS X ps) RU)) := by
              rw [hV8]
              exact (I1.out.far (by show R ≠ w.heap.size + 1; omega) HPN.out.2.2.1 _).far (by show R ≠ w.heap.size + 1 + 1; omega) HPN.out.2.2.2 _
            have hbw8 : Below w.heap.size w V8 := by
              rw [hV8]
              exact ((HWU.out W HBAw.out).setCell (by show w.heap.size ≤ w.heap.size + 1; omega) _).setCell (by show w.heap.size ≤ w.heap.size + 1 + 1; omega) _
            obtain ⟨V9, hV9⟩ : ∃ V, V = V8.putObj D (.deferred none) := ⟨_, rfl⟩
            have hg9 : V8.grownBy V9 (some D) := by rw [hV9]; exact grownBy_putObj' V8 D _
            have hro : ∀ r, some D = some r → ∃ o : Obj, V8.heap[r]? = some o ∧ o.isCells = false := fun r e => by injection e with e; subst e; exact ⟨_, hD8, rfl⟩
            have f0 : V9.cell? ⟨w.heap.size + 1, 0, none⟩ = some (.slice (some ⟨R, 0, none⟩) k k) := (hr4.own hg9 hro).cell 0
            have f1 : V9.cell? ⟨w.heap.size + 1 + 1, 0, none⟩ = some (.int .i64 0) := (hr5.own hg9 hro).cell 0
            show LeavesInM _ _ _ _ _ _ _ _ _
            refine ⟨by simp, .inl ⟨D, V9, rfl, by rw [hV9]; exact run_takeDeferred hD8, ?_⟩⟩
            refine ⟨.tuple #[.slice (some ⟨R, 0, none⟩) k k, .int .i64 0], by simp [results, Tryz.results39, go_sem, f0, f1], ?_⟩
            rw [← HME.out, ← HOE.out, ← HRUE.out]
            have hbo := hblk.own hg9 hro
            exact ⟨R, k, rfl, by omega, hbo.weak fun b _ hb => HPR.out b hb, hbw8.grown hg9 (by have := hbw8.size; exact this) fun r e => by injection e with e; omega⟩
          case stop =>
            rintro D c pre W _ _ h _
            exact h.elim
        have s0 : (0 : Int) ≤ (j : Int) := by omega
        have s1 : (j : Int) < (O.length : Int) := by omega
        have s3 : IntKind.i64.wrap ((j : Int) + 1) = ((j + 1 : Nat) : Int) := by rw [IntWalk.i64_in _ (by omega)]; omega
        have hcm := HLT.out _ (List.getElem_mem hjl)
        obtain ⟨ob, oo, hoa, hob, oc⟩ := Sl.at_ HSO.out (k := j) (by unfold natV; rw [List.length_map]; exact hjl)
        subst hoa
        have oc : wr.cell? ⟨ob, oo + j, none⟩ = some (.int .i64 (O[j] : Nat)) := by
          rw [HBB.out.cell (p := ⟨ob, oo + j, none⟩) hob, oc]
          simp [natV]
        have hob2 : ob < wr.heap.size := Nat.lt_of_lt_of_le hob HBB.out.size
        have HTO : Hid ((O.take (j + 1)).foldl (upS X ps) (fun i => (X i).P) = upS X ps ((O.take j).foldl (upS X ps) fun i => (X i).P) O[j]) := by
          show _ = _
          rw [List.take_succ_eq_append_getElem hjl, List.foldl_append]
          rfl
        generalize O[j] = c at *
        generalize ((O.take j).foldl (upS X ps) fun i => (X i).P) = RF at *
        have hpc := HPAR.out c hcm
        have hcl : c < ps.length := by rw [HLL.out]; exact hcm
        obtain ⟨pb, po, hpa, hpb, pc⟩ := slI_at (HPS.out w (Below.refl _ _)) hcl
        have hpe : ps[c] = JT.par ps c := by unfold JT.par; simp [hcl]
        rw [hpe] at pc
        subst hpa
        have pc := (HBXj.out.cell (p := ⟨pb, po + c, none⟩) hpb).trans pc
        have hpb2 : pb < wr.heap.size := Nat.lt_of_lt_of_le hpb HBXj.out.size
        have v0 : (0 : Int) ≤ (c : Int) := by omega
        have v1 : (c : Int) < (ps.length : Int) := by omega
        have v2 : (c : Int) < (k : Int) := by omega
        clear hpe hcl
        by_cases hneg : JT.par ps c < 0
        · have HUP2 := Lib.hid (up_root (X := X) (R := RF) hneg)
          have hd : decide ((0 : Int) ≤ JT.par ps c) = false := decide_eq_false (by omega)
          generalize JT.par ps c = pp at *
          clear hneg
          go_wp2_with fail
          go_roundw
          case rel => exact ⟨j + 1, hjl, by go_num, by rw [HTO.out, HUP2.out]; exact HBJ.out, by rw [HTO.out, HUP2.out]; exact HGJ.out, HBB.out, HR8j.out, HREj.out⟩
          case measure => simp [intOf]; omega
        obtain ⟨pn, hpn⟩ := Int.eq_ofNat_of_zero_le (show 0 ≤ JT.par ps c by omega)
        have hpm : pn < k := by omega
        have HMK := Lib.hid (mkL_up (m := k) (X := X) (R := RF) hpn hpm)
        have hd : decide ((0 : Int) ≤ (pn : Int)) = true := decide_eq_true (by omega)
        rw [hpn] at pc
        have HGN := Lib.hid (HGJ.out.up (ps := ps) c)
        clear hneg hpc hpn
        have w0' : (0 : Int) ≤ (pn : Int) := by omega
        have w1' : (pn : Int) < (k : Int) := by omega
        obtain ⟨VA, VC, QA, QC, p0, p1, p2, hap⟩ := HBJ.out.at_ (mkL_get hpm)
        obtain ⟨VB, VD, QB, QD, b0, b1, b2, hac⟩ := HBJ.out.at_ (mkL_get hcm)
        simp only at p0 p1 p2 b0 b1 b2
        have hRz := HBJ.out.lt
        have HSM := Lib.hid (sjSemi_ok _ _ _ _ wr.drew (show AtV wr.drew _ _ from hap.v) (show AtV wr.drew _ _ from hac.v) (HGJ.out pn hpm) (HGJ.out c hcm))
        clear hap hac
        go_upto_region 15 with (fail)
        refine regionS (S := (fun w' => (w'.cell? ⟨B8, 0, none⟩ = some (.slice (some ⟨R, 0, none⟩) k k) ∧ (w'.cell? ⟨R, pn * 3, none⟩ = some (.slice VA (X pn).vs.length VC) ∧ w'.cell? ⟨R, pn * 3 + 1, none⟩ = some (.int .i64 ((X pn).vs.length : Nat)) ∧ w'.cell? ⟨R, pn * 3 + 2, none⟩ = some (.slice QA (RF pn).length QC))) ∧ w'.cell? ⟨R, c * 3, none⟩ = some (.slice VB (X c).vs.length VD) ∧ w'.cell? ⟨R, c * 3 + 1, none⟩ = some (.int .i64 ((X c).vs.length : Nat)) ∧ w'.cell? ⟨R, c * 3 + 2, none⟩ = some (.slice QB (RF c).length QD))) [15, 16] (by kernel_rfl) ⟨⟨c8, p0, p1, p2⟩, b0, b1, b2⟩ (fun hHeld => ?_)
        refine takeS (i := 0) (v := ?_) (some 59) rfl rfl (by kernel_rfl) (by decide) (by kernel_rfl) (by kernel_rfl) (by kernel_rfl) (by kernel_rfl) (fun _ _ _ h => h) (Or.inl ⟨by rfl, ?_⟩) (by assumption) ?_
        rotate_left 1
        · (intro w0 hSw; (try dsimp only at hSw); go_simp; try (with_reducible rfl))
        try simp only [Act.put, List.setIfInBounds_toArray, List.set_cons_succ, List.set_cons_zero]
        refine takeS (i := 1) (v := ?_) (some 60) rfl rfl (by kernel_rfl) (by decide) (by kernel_rfl) (by kernel_rfl) (by kernel_rfl) (by kernel_rfl) (fun _ _ _ h => h) (Or.inl ⟨by rfl, ?_⟩) (by assumption) ?_
        rotate_left 1
        · (intro w0 hSw; (try dsimp only at hSw); go_simp; try (with_reducible rfl))
        try simp only [Act.put, List.setIfInBounds_toArray, List.set_cons_succ, List.set_cons_zero]
        refine takeS (i := 2) (v := ?_) (some 61) rfl rfl (by kernel_rfl) (by decide) (by kernel_rfl) (by kernel_rfl) (by kernel_rfl) (by kernel_rfl) (fun _ _ _ h => h) (Or.inl ⟨by rfl, ?_⟩) (by assumption) ?_
        rotate_left 1
        · (intro w0 hSw; (try dsimp only at hSw); go_simp; try (with_reducible rfl))
        try simp only [Act.put, List.setIfInBounds_toArray, List.set_cons_succ, List.set_cons_zero]
        refine takeS (i := 3) (v := ?_) (some 62) rfl rfl (by kernel_rfl) (by decide) (by kernel_rfl) (by kernel_rfl) (by kernel_rfl) (by kernel_rfl) (fun _ _ _ h => h) (Or.inl ⟨by rfl, ?_⟩) (by assumption) ?_
        rotate_left 1
        · (intro w0 hSw; (try dsimp only at hSw); go_simp; try (with_reducible rfl))
        try simp only [Act.put, List.setIfInBounds_toArray, List.set_cons_succ, List.set_cons_zero]
        refine takeS (i := 4) (v := ?_) (some 63) rfl rfl (by kernel_rfl) (by decide) (by kernel_rfl) (by kernel_rfl) (by kernel_rfl) (by kernel_rfl) (fun _ _ _ h => h) (Or.inl ⟨by rfl, ?_⟩) (by assumption) ?_
        rotate_left 1
        · (intro w0 hSw; (try dsimp only at hSw); go_simp; try (with_reducible rfl))
        try simp only [Act.put, List.setIfInBounds_toArray, List.set_cons_succ, List.set_cons_zero]
        refine takeS (i := 5) (v := ?_) (some 64) rfl rfl (by kernel_rfl) (by decide) (by kernel_rfl) (by kernel_rfl) (by kernel_rfl) (by kernel_rfl) (fun _ _ _ h => h) (Or.inl ⟨by rfl, ?_⟩) (by assumption) ?_
        rotate_left 1
        · (intro w0 hSw; (try dsimp only at hSw); go_simp; try (with_reducible rfl))
        try simp only [Act.put, List.setIfInBounds_toArray, List.set_cons_succ, List.set_cons_zero]
        refine takeS (i := 6) (v := ?_) (some 65) rfl rfl (by kernel_rfl) (by decide) (by kernel_rfl) (by kernel_rfl) (by kernel_rfl) (by kernel_rfl) (fun _ _ _ h => h) (Or.inl ⟨by rfl, ?_⟩) (by assumption) ?_
        rotate_left 1
        · (intro w0 hSw; (try dsimp only at hSw); go_simp; try (with_reducible rfl))
        try simp only [Act.put, List.setIfInBounds_toArray, List.set_cons_succ, List.set_cons_zero]
        refine takeS (i := 7) (v := ?_) (some 66) rfl rfl (by kernel_rfl) (by decide) (by kernel_rfl) (by kernel_rfl) (by kernel_rfl) (by kernel_rfl) (fun _ _ _ h => h) (Or.inl ⟨by rfl, ?_⟩) (by assumption) ?_
        rotate_left 1
        · (intro w0 hSw; (try dsimp only at hSw); go_simp; try (with_reducible rfl))
        try simp only [Act.put, List.setIfInBounds_toArray, List.set_cons_succ, List.set_cons_zero]
        refine takeS (i := 8) (v := ?_) (some 67) rfl rfl (by kernel_rfl) (by decide) (by kernel_rfl) (by kernel_rfl) (by kernel_rfl) (by kernel_rfl) (fun _ _ _ h => h) (Or.inl ⟨by rfl, ?_⟩) (by assumption) ?_
        rotate_left 1
        · (intro w0 hSw; (try dsimp only at hSw); go_simp; try (with_reducible rfl))
        try simp only [Act.put, List.setIfInBounds_toArray, List.set_cons_succ, List.set_cons_zero]
        refine takeS (i := 9) (v := ?_) (some 68) rfl rfl (by kernel_rfl) (by decide) (by kernel_rfl) (by kernel_rfl) (by kernel_rfl) (by kernel_rfl) (fun _ _ _ h => h) (Or.inl ⟨by rfl, ?_⟩) (by assumption) ?_
        rotate_left 1
        · (intro w0 hSw; (try dsimp only at hSw); go_simp; try (with_reducible rfl))
        try simp only [Act.put, List.setIfInBounds_toArray, List.set_cons_succ, List.set_cons_zero]
        refine oneS (i := 10) (by kernel_rfl) rfl (fun K hK => ?_)
        go_simp
        refine HSM.out.mono ?_
        rintro e V1 ⟨v1, rfl, hat, hb⟩
        have hbv : Below wr.heap.size wr V1 := Below.undrew hb
        have HV1 := Lib.hid hbv
        have hv := fun (p : Addr) (hp : p.block < wr.heap.size) => hbv.cell (p := p) hp
        have KEEP := (⟨⟨(hv _ c9).trans c8, (hv ⟨R, pn * 3, none⟩ hRz).trans p0, (hv ⟨R, pn * 3 + 1, none⟩ hRz).trans p1, (hv ⟨R, pn * 3 + 2, none⟩ hRz).trans p2⟩, (hv ⟨R, c * 3, none⟩ hRz).trans b0, (hv ⟨R, c * 3 + 1, none⟩ hRz).trans b1, (hv ⟨R, c * 3 + 2, none⟩ hRz).trans b2⟩ : (_ ∧ _ ∧ _ ∧ _) ∧ _ ∧ _ ∧ _)
        have HAT := Lib.hid hat
        obtain ⟨SA, SC, TA, TC, rfl, -, -, -, -, -⟩ := hat
        have HBKV := Lib.hid (HBJ.out.keep hbv)
        have HR8V := Lib.hid (HR8j.out.up hbv)
        have HREV := Lib.hid (HREj.out.up hbv)
        have hf0 := HBKV.out.frozen (pn * 3)
        have hf1 := HBKV.out.frozen (pn * 3 + 1)
        have hf2 := HBKV.out.frozen (pn * 3 + 2)
        have hfR := HBKV.out.lt
        have hg0 := HREV.out.frozen 0
        have hg1 := HREV.out.lt
        have hg2 : V1.cell? ⟨E, 0, none⟩ = some (.int .i64 0) := HREV.out.cell 0
        have hk0 := KEEP.1.2.1
        have hk1 := KEEP.1.2.2.1
        have hk2 := KEEP.1.2.2.2
        have hER : E < R := by have := HZ.out; omega
        clear hb hbv hv
        go_wp2_with fail
        refine hK.out _ _ KEEP (fun hHeld => ?_)
        clear hK K
        try simp only [Act.put, List.setIfInBounds_toArray, List.set_cons_succ, List.set_cons_zero]
        refine takeS (i := 11) (v := ?_) (some 58) rfl rfl (by kernel_rfl) (by decide) (by kernel_rfl) (by kernel_rfl) (by kernel_rfl) (by kernel_rfl) (fun _ _ _ h => h) (Or.inl ⟨by rfl, ?_⟩) (by assumption) ?_
        rotate_left 1
        · (intro w0 hSw; (try dsimp only at hSw); go_simp; try (with_reducible rfl))
        try simp only [Act.put, List.setIfInBounds_toArray, List.set_cons_succ, List.set_cons_zero]
        refine takeFree (i := 12) (v := ?_) (some 70) rfl rfl (by kernel_rfl) (by kernel_rfl) (by kernel_rfl) (fun _ _ _ h => h) (Or.inl ⟨by rfl, ?_⟩) ?_
        rotate_left 1
        · (intro w0 hSw; (try dsimp only at hSw); go_simp; try (with_reducible rfl))
        try simp only [Act.put, List.setIfInBounds_toArray, List.set_cons_succ, List.set_cons_zero]
        refine takeFree (i := 13) (v := ?_) (some 71) rfl rfl (by kernel_rfl) (by kernel_rfl) (by kernel_rfl) (fun _ _ _ h => h) (Or.inl ⟨by rfl, ?_⟩) ?_
        rotate_left 1
        · (intro w0 hSw; (try dsimp only at hSw); go_simp; try (with_reducible rfl))
        try simp only [Act.put, List.setIfInBounds_toArray, List.set_cons_succ, List.set_cons_zero]
        refine takeS (i := 14) (v := ?_) (some 72) rfl rfl (by kernel_rfl) (by decide) (by kernel_rfl) (by kernel_rfl) (by kernel_rfl) (by kernel_rfl) (fun _ _ _ h => h) (Or.inl ⟨by rfl, ?_⟩) (by assumption) ?_
        rotate_left 1
        · (intro w0 hSw; (try dsimp only at hSw); go_simp; try (with_reducible rfl))
        try simp only [Act.put, List.setIfInBounds_toArray, List.set_cons_succ, List.set_cons_zero]
        refine oneL (i := 15) (by kernel_rfl) rfl (by decide) (fun K hK => ?_)
        go_simp
        go_wp2_with fail
        refine hK.out _ _ ?_
        clear hK K
        try simp only [Act.put, List.setIfInBounds_toArray, List.set_cons_succ, List.set_cons_zero]
        refine oneL (i := 16) (by kernel_rfl) rfl (by decide) (fun K hK => ?_)
        go_simp
        go_wp2_with fail
        refine hK.out _ _ ?_
        clear hK K
        try simp only [Act.put, List.setIfInBounds_toArray, List.set_cons_succ, List.set_cons_zero]
        refine doneS (by kernel_rfl) ?_ _
        obtain ⟨V7, hV7⟩ : ∃ V', V' = (((V1.setCell ⟨R, pn * 3, none⟩ (.slice SA (X pn).vs.length SC)).setCell ⟨R, pn * 3 + 1, none⟩ (.int .i64 ((X pn).vs.length : Nat))).setCell ⟨R, pn * 3 + 2, none⟩ (.slice TA (semiF ⟨(X pn).vs, RF pn⟩ ⟨(X c).vs, RF c⟩).length TC)).setCell ⟨E, 0, none⟩ (.int .i64 0) := ⟨_, rfl⟩
        rw [← hV7]
        have hzz := HZ.out
        have hwz : B8 < wr.heap.size := c9
        have HBK7 : Hid (BlkA PP R V7 (mkL k X (upS X ps RF c))) := by
          rw [hV7, ← HMK.out]
          exact (HBKV.out.set HPN.out.1 (by rw [mkL_len]; exact hpm) (HAT.out.keep (fun _ _ _ => rfl) (Nat.le_refl _) fun b _ hb => HPO.out b (.inr (by have hb' : wr.heap.size + 3 ≤ b := hb; omega)))).far (by show R ≠ E; omega) HPN.out.2.1 _
        have HB7 : Hid (Below W1.heap.size W1 V7) := by
          rw [hV7]
          have hb := Below.then HBB.out HV1.out HBB.out.size
          exact (((hb.setCell (by show W1.heap.size ≤ R; omega) _).setCell (by show W1.heap.size ≤ R; omega) _).setCell (by show W1.heap.size ≤ R; omega) _).setCell (by show W1.heap.size ≤ E; omega) _
        have HR87 : Hid (Row V7 B8 25 [.slice (some ⟨R, 0, none⟩) k k]) := by
          show Row _ _ _ _
          rw [hV7]
          exact (((HR8V.out.far (by show B8 ≠ R; omega) _).far (by show B8 ≠ R; omega) _).far (by show B8 ≠ R; omega) _).far (by show B8 ≠ E; omega) _
        have HRE7 : Hid (Row V7 E 37 [.int .i64 0]) := by
          show Row _ _ _ _
          rw [hV7]
          exact (((HREV.out.far (by show E ≠ R; omega) _).far (by show E ≠ R; omega) _).far (by show E ≠ R; omega) _).set 0 (.int .i64 0)
        have hE7 : V7.cell? ⟨E, 0, none⟩ = some (.int .i64 0) := HRE7.out.cell 0
        have hE8 := HRE7.out.lt
        clear hV7 hzz hwz hf0 hf1 hf2 hfR hg0 hg1 hg2 hk0 hk1 hk2
        go_wp2_with fail
        go_roundw
        case rel => exact ⟨j + 1, hjl, by go_num, by rw [HTO.out]; exact HBK7.out, by rw [HTO.out]; exact HGN.out, HB7.out, HR87.out, HRE7.out⟩
        case measure => simp [intOf]; omega
    have r0 : (0 : Int) ≤ (k : Int) := by omega
    have r1 : (k : Int) < (m : Int) := by omega
    have r3 : IntKind.i64.wrap ((k : Int) + 1) = ((k + 1 : Nat) : Int) := by rw [IntWalk.i64_in _ (by omega)]; omega
    have hka : k < (al.map At.ra).length := by rw [List.length_map, ← HME.out]; exact hkl
    obtain ⟨ab, ao, VA, VC, QA, QC, rfl, hab, a0, a1, a2, d1, d2, d3, d4, av, aP⟩ := ats_at (HA.out w (Below.refl _ _)) hka
    rw [List.getElem_map] at a0 a1 a2 d1 d3 av aP
    have hka2 : k < al.length := by rw [← HME.out]; exact hkl
    have HTK : Hid (al.take (k + 1) = al.take k ++ [al[k]]) := List.take_succ_eq_append_getElem hka2
    have HGK := Lib.hid (HGD.out _ (List.getElem_mem hka2))
    generalize al[k] = a at *
    obtain ⟨us, UP⟩ := a
    have a0 : w.cell? ⟨ab, ao + k * 3, none⟩ = some (.slice VA us.length VC) := by rw [a0]; unfold At.ra; simp
    have a1 : w.cell? ⟨ab, ao + k * 3 + 1, none⟩ = some (.int .i64 (us.length : Nat)) := a1
    have a2 : w.cell? ⟨ab, ao + k * 3 + 2, none⟩ = some (.slice QA UP.length QC) := a2
    have a0 := (HBX.out.cell (p := ⟨ab, ao + k * 3, none⟩) hab).trans a0
    have a1 := (HBX.out.cell (p := ⟨ab, ao + k * 3 + 1, none⟩) hab).trans a1
    have a2 := (HBX.out.cell (p := ⟨ab, ao + k * 3 + 2, none⟩) hab).trans a2
    have hab2 : ab < wr.heap.size := Nat.lt_of_lt_of_le hab HBX.out.size
    have hul : us.length ≤ 32 := HGK.out.vl
    have HVS : Hid (SlI .i64 w.heap.size w VA (us.map Int.ofNat)) := av
    have HUP : Hid (SlRs w.heap.size w QA UP ∧ UP.length ≤ QC ∧ QC ≤ 9223372036854775807) := ⟨aP, d3, d4⟩
    obtain ⟨wo, hwo⟩ : ∃ wo, wo = wr := ⟨_, rfl⟩
    subst hwo
    obtain ⟨W5, hW5⟩ : ∃ W5, W5 = wo.alloc (.cells #[.slice VA us.length VC, .int .i64 (us.length : Nat), .slice QA UP.length QC] 36) := ⟨_, rfl⟩
    obtain ⟨g10, hg10⟩ : ∃ g10, g10 = wo.heap.size := ⟨_, rfl⟩
    have HX5 : Hid (Ext wo W5) := by show Ext _ _; rw [hW5]; exact (Ext.refl wo).alloc _
    have HR10 : Hid (Row W5 g10 36 [.slice VA us.length VC, .int .i64 (us.length : Nat), .slice QA UP.length QC]) := by show Row _ _ _ _; rw [hW5, hg10]; exact Row.new wo 36 _
    have HBK5 := Lib.hid (HBK.out.keep HX5.out.below)
    have HR85 := Lib.hid (HR8k.out.up HX5.out.below)
    have HRE5 := Lib.hid (HREk.out.up HX5.out.below)
    have HB5 : Hid (Below W1.heap.size W1 W5) := Below.then HB.out HX5.out.below HB.out.size
    have HBX5 : Hid (Below w.heap.size w W5) := Below.then HBX.out HX5.out.below HBX.out.size
    have HG10E := Lib.hid hg10
    have HW5E := Lib.hid hW5
    clear hW5 hg10 av aP d1 d2 d3 d4 HBK HR8k HREk
    go_upto_region 8 with (fail)
    rw [← HW5E.out, ← HG10E.out]
    have f0 : W5.cell? ⟨B8, 0, none⟩ = some (.slice (some ⟨R, 0, none⟩) m m) := HR85.out.cell 0
    have f1 : W5.cell? ⟨g10, 0, none⟩ = some (.slice VA us.length VC) := HR10.out.cell 0
    have f2 : W5.cell? ⟨g10, 1, none⟩ = some (.int .i64 (us.length : Nat)) := HR10.out.cell 1
    have f3 : W5.cell? ⟨g10, 2, none⟩ = some (.slice QA UP.length QC) := HR10.out.cell 2
    have f4 := HR85.out.lt
    have f5 := HR10.out.lt
    have HCL := Lib.hid (cloneInt_any VA VC (us.map Int.ofNat) W5.drew ((Sl.below HVS.out HBX5.out (Nat.le_refl _)).more HBX5.out.size) (by rw [List.length_map]; omega))
    clear a0 a1 a2 hab2 c8 c9
    refine regionZ (S := (fun w' => (w'.cell? ⟨B8, 0, none⟩ = some (.slice (some ⟨R, 0, none⟩) m m) ∧ w'.cell? ⟨g10, 0, none⟩ = some (.slice VA us.length VC)) ∧ w'.cell? ⟨g10, 1, none⟩ = some (.int .i64 (us.length : Nat)) ∧ w'.cell? ⟨g10, 2, none⟩ = some (.slice QA UP.length QC))) 9 (by kernel_rfl) ⟨⟨f0, f1⟩, f2, f3⟩ (fun hHeld => ?_)
    refine takeZ (i := 0) (v := ?_) (some 35) rfl rfl (by kernel_rfl) (by decide) (by kernel_rfl) (by kernel_rfl) (by kernel_rfl) (by kernel_rfl) (fun _ _ _ h => h) (Or.inl ⟨by rfl, ?_⟩) (by assumption) ?_
    rotate_left 1
    · (intro w0 hSw; (try dsimp only at hSw); go_simp; try (with_reducible rfl))
    try simp only [Act.put, List.setIfInBounds_toArray, List.set_cons_succ, List.set_cons_zero]
    refine takeZ (i := 1) (v := ?_) (some 36) rfl rfl (by kernel_rfl) (by decide) (by kernel_rfl) (by kernel_rfl) (by kernel_rfl) (by kernel_rfl) (fun _ _ _ h => h) (Or.inl ⟨by rfl, ?_⟩) (by assumption) ?_
    rotate_left 1
    · (intro w0 hSw; (try dsimp only at hSw); go_simp; try (with_reducible rfl))
    try simp only [Act.put, List.setIfInBounds_toArray, List.set_cons_succ, List.set_cons_zero]
    refine takeZ (i := 2) (v := ?_) (some 37) rfl rfl (by kernel_rfl) (by decide) (by kernel_rfl) (by kernel_rfl) (by kernel_rfl) (by kernel_rfl) (fun _ _ _ h => h) (Or.inl ⟨by rfl, ?_⟩) (by assumption) ?_
    rotate_left 1
    · (intro w0 hSw; (try dsimp only at hSw); go_simp; try (with_reducible rfl))
    try simp only [Act.put, List.setIfInBounds_toArray, List.set_cons_succ, List.set_cons_zero]
    refine takeZ (i := 3) (v := ?_) (some 38) rfl rfl (by kernel_rfl) (by decide) (by kernel_rfl) (by kernel_rfl) (by kernel_rfl) (by kernel_rfl) (fun _ _ _ h => h) (Or.inl ⟨by rfl, ?_⟩) (by assumption) ?_
    rotate_left 1
    · (intro w0 hSw; (try dsimp only at hSw); go_simp; try (with_reducible rfl))
    try simp only [Act.put, List.setIfInBounds_toArray, List.set_cons_succ, List.set_cons_zero]
    refine takeZ (i := 5) (v := ?_) (some 40) rfl rfl (by kernel_rfl) (by decide) (by kernel_rfl) (by kernel_rfl) (by kernel_rfl) (by kernel_rfl) (fun _ _ _ h => h) (Or.inl ⟨by rfl, ?_⟩) (by assumption) ?_
    rotate_left 1
    · (intro w0 hSw; (try dsimp only at hSw); go_simp; try (with_reducible rfl))
    try simp only [Act.put, List.setIfInBounds_toArray, List.set_cons_succ, List.set_cons_zero]
    refine takeZ (i := 6) (v := ?_) (some 41) rfl rfl (by kernel_rfl) (by decide) (by kernel_rfl) (by kernel_rfl) (by kernel_rfl) (by kernel_rfl) (fun _ _ _ h => h) (Or.inl ⟨by rfl, ?_⟩) (by assumption) ?_
    rotate_left 1
    · (intro w0 hSw; (try dsimp only at hSw); go_simp; try (with_reducible rfl))
    try simp only [Act.put, List.setIfInBounds_toArray, List.set_cons_succ, List.set_cons_zero]
    refine oneZ (i := 4) (by kernel_rfl) rfl (by decide) (fun K hK => ?_)
    go_simp
    have hcl := HCL.out
    rw [List.length_map] at hcl
    refine hcl.mono ?_
    rintro e V1 ⟨v1, rfl, ho, hb⟩
    obtain ⟨A1, C1, rfl⟩ := own_sliceG ho
    have HO1 := Lib.hid ho
    have HV1 : Hid (Below W5.heap.size W5 V1) := Below.undrew hb
    have KEEP : (V1.cell? ⟨B8, 0, none⟩ = some (.slice (some ⟨R, 0, none⟩) m m) ∧ V1.cell? ⟨g10, 0, none⟩ = some (.slice VA us.length VC)) ∧ V1.cell? ⟨g10, 1, none⟩ = some (.int .i64 (us.length : Nat)) ∧ V1.cell? ⟨g10, 2, none⟩ = some (.slice QA UP.length QC) :=
      ⟨⟨(HV1.out.cell (p := ⟨B8, 0, none⟩) f4).trans f0, (HV1.out.cell (p := ⟨g10, 0, none⟩) f5).trans f1⟩, (HV1.out.cell (p := ⟨g10, 1, none⟩) f5).trans f2, (HV1.out.cell (p := ⟨g10, 2, none⟩) f5).trans f3⟩
    have HBK6 := Lib.hid (HBK5.out.keep HV1.out)
    obtain ⟨u0, hu0⟩ := HBK6.out.cell (i := k * 3) (by simp; omega)
    obtain ⟨u1, hu1⟩ := HBK6.out.cell (i := k * 3 + 1) (by simp; omega)
    obtain ⟨u2, hu2⟩ := HBK6.out.cell (i := k * 3 + 2) (by simp; omega)
    have hf0 := HBK6.out.frozen (k * 3)
    have hf1 := HBK6.out.frozen (k * 3 + 1)
    have hf2 := HBK6.out.frozen (k * 3 + 2)
    have hfR := HBK6.out.lt
    clear ho hb hcl
    go_wp2_with fail
    refine hK.out _ _ KEEP (fun hHeld => ?_)
    clear hK K
    try simp only [Act.put, List.setIfInBounds_toArray, List.set_cons_succ, List.set_cons_zero]
    refine takeZ (i := 7) (v := ?_) (some 42) rfl rfl (by kernel_rfl) (by decide) (by kernel_rfl) (by kernel_rfl) (by kernel_rfl) (by kernel_rfl) (fun _ _ _ h => h) (Or.inl ⟨by rfl, ?_⟩) (by assumption) ?_
    rotate_left 1
    · (intro w0 hSw; (try dsimp only at hSw); go_simp; try (with_reducible rfl))
    try simp only [Act.put, List.setIfInBounds_toArray, List.set_cons_succ, List.set_cons_zero]
    refine takeZ (i := 8) (v := ?_) (some 43) rfl rfl (by kernel_rfl) (by decide) (by kernel_rfl) (by kernel_rfl) (by kernel_rfl) (by kernel_rfl) (fun _ _ _ h => h) (Or.inl ⟨by rfl, ?_⟩) (by assumption) ?_
    rotate_left 1
    · (intro w0 hSw; (try dsimp only at hSw); go_simp; try (with_reducible rfl))
    try simp only [Act.put, List.setIfInBounds_toArray, List.set_cons_succ, List.set_cons_zero]
    refine lastZ (by kernel_rfl) rfl (by kernel_rfl) (fun K hK => ?_)
    go_simp
    go_wp2_with fail
    refine hK.out _ _ ?_
    clear hK K
    try simp only [Act.put, List.setIfInBounds_toArray, List.set_cons_succ, List.set_cons_zero]
    obtain ⟨V6, hV6⟩ : ∃ V', V' = ((V1.setCell ⟨R, k * 3, none⟩ (.slice A1 us.length C1)).setCell ⟨R, k * 3 + 1, none⟩ (.int .i64 (us.length : Nat))).setCell ⟨R, k * 3 + 2, none⟩ (.slice QA UP.length QC) := ⟨_, rfl⟩
    rw [← hV6]
    have hzz := HZ.out
    have h5z : B8 < W5.heap.size := f4
    have HAT : Hid (AtP PP V1.heap.size V1 (.agg #[.slice A1 us.length C1, .int .i64 (us.length : Nat), .slice QA UP.length QC]) ⟨us, UP⟩) := by
      obtain ⟨A1', C1', e1, -, -, hown⟩ := Sl.of_own HO1.out
      injection e1 with e1
      subst e1
      refine ⟨A1, C1, QA, QC, rfl, (own_cap HO1.out).1, (own_cap HO1.out).2, HUP.out.2.1, HUP.out.2.2, fun W hag => ⟨fun hne => ?_, ?_⟩⟩
      · obtain ⟨b, o, e2, hb, hc⟩ := hown hne
        have hbase := own_base HO1.out (k := b) (by rw [e2]; rfl)
        have hbase : W5.heap.size ≤ b := hbase
        exact ⟨b, o, e2, hb, fun j u hu => (hag ⟨b, o + j, none⟩ hb (HPO.out b (.inr (by omega)))).trans (hc j u hu)⟩
      · have hbx := Below.then HBX5.out HV1.out HBX5.out.size
        exact (HUP.out.1.keep fun p hp => (hag p (by have := hbx.size; omega) (HPO.out _ (.inl hp))).trans (hbx.cell (p := p) hp)).more hbx.size
    have HSET : Hid ((al.take k ++ List.replicate (m - k) (⟨[], []⟩ : At)).set k ⟨us, UP⟩ = al.take (k + 1) ++ List.replicate (m - (k + 1)) ⟨[], []⟩) := by
      show _ = _
      have hlk : (al.take k).length = k := by rw [List.length_take]; omega
      rw [HTK.out, List.set_append_right _ _ (by omega), hlk, Nat.sub_self, List.append_assoc]
      congr 1
      have : m - k = (m - (k + 1)) + 1 := by omega
      rw [this, List.replicate_succ]
      rfl
    have HBK7 : Hid (BlkA PP R V6 (al.take (k + 1) ++ List.replicate (m - (k + 1)) ⟨[], []⟩)) := by
      rw [hV6, ← HSET.out]
      exact HBK6.out.set HPN.out.1 (by simp; omega) HAT.out
    have HB7 : Hid (Below W1.heap.size W1 V6) := by
      rw [hV6]
      have hb := Below.then HB5.out HV1.out HB5.out.size
      exact ((hb.setCell (by show W1.heap.size ≤ R; omega) _).setCell (by show W1.heap.size ≤ R; omega) _).setCell (by show W1.heap.size ≤ R; omega) _
    have HR87 : Hid (Row V6 B8 25 [.slice (some ⟨R, 0, none⟩) m m]) := by
      show Row _ _ _ _
      rw [hV6]
      exact (((HR85.out.up HV1.out).far (by show B8 ≠ R; omega) _).far (by show B8 ≠ R; omega) _).far (by show B8 ≠ R; omega) _
    have HRE7 : Hid (Row V6 E 37 [.int .i64 0]) := by
      show Row _ _ _ _
      rw [hV6]
      exact (((HRE5.out.up HV1.out).far (by show E ≠ R; omega) _).far (by show E ≠ R; omega) _).far (by show E ≠ R; omega) _
    clear hHeld hV6 hzz h5z hu0 hu1 hu2 hf0 hf1 hf2 hfR
    go_wp2_with fail
    go_roundw
    case rel => exact ⟨k + 1, hkl, by go_num, HBK7.out, HB7.out, HR87.out, HRE7.out⟩
    case measure => simp [intOf]; omega
end
section
open Go.RowKit Go.Sort

theorem PRip.mono {ps : List Int} {F F' : Nat → Nat → Prop} (h : ∀ i v, F i v ↔ F' i v) : ∀ {l : List Nat}, JT.PRip ps F l → JT.PRip ps F' l
  | [], _ => trivial
  | c :: t, h1 => by
    obtain ⟨h1, h2⟩ := h1
    refine ⟨h1.imp_right fun ⟨p, hp, hpar, hr⟩ => ⟨p, hp, hpar, fun v hv hz => ?_⟩, PRip.mono h h2⟩
    obtain ⟨z, hz, hzv⟩ := hz
    exact (h p v).1 (hr v ((h c v).2 hv) ⟨z, hz, (h z v).2 hzv⟩)
theorem PRip.drop {ps : List Int} {F : Nat → Nat → Prop} : ∀ {l : List Nat} (j : Nat), JT.PRip ps F l → JT.PRip ps F (l.drop j)
  | l, 0, h => by rw [List.drop_zero]; exact h
  | [], j + 1, h => by rw [List.drop_nil]; exact h
  | c :: t, j + 1, h => by rw [List.drop_succ_cons]; exact PRip.drop j h.2
structure TreeOk (al : List At) (ps : List Int) (X : Nat → At) : Prop where
  len : ps.length = al.length
  pos : 0 < al.length
  root : JT.rootedB ps = true
  nd : (JT.orderF ps).Nodup
  mem : ∀ u, u ∈ JT.orderF ps ↔ u < al.length
  rip : JT.PRip ps (fun i v => v ∈ (X i).vs) (JT.orderF ps)
theorem TreeOk.of {al : List At} {ps : List Int} {X : Nat → At} (hX : X = fun i => al.getD i ⟨[], []⟩) (h : JT.chkF (graphN al : Nat) (graphE al) ps = 0) : TreeOk al ps X := by
  have hl : (graphE al).length = al.length := by unfold graphE; rw [List.length_map]
  obtain ⟨h1, h2, h3, h4, h5⟩ := JT.order_rip h
  have hg : JT.hgCheckF (graphN al : Nat) (graphE al) = 0 := by
    refine Classical.byContradiction fun h' => ?_
    rw [JT.chkF_hg h'] at h; exact h' h
  have hr : JT.rootedB ps = true := by
    cases h' : JT.rootedB ps with
    | true => rfl
    | false => rw [JT.chkF_root hg h1 h'] at h; cases h
  refine ⟨by omega, by omega, hr, h3, fun u => by rw [h4 u]; omega, PRip.mono (fun i v => ?_) h5⟩
  unfold JT.bit
  rcases Nat.lt_or_ge i al.length with hi | hi
  · have e1 : (graphE al)[i]?.getD 0 = setN al[i].vs := by unfold graphE; simp [hi]
    have e2 : X i = al[i] := by rw [hX]; simp [hi]
    rw [e1, e2, setN_bit, decide_eq_true_eq]
  · have e1 : (graphE al)[i]?.getD 0 = 0 := by rw [List.getElem?_eq_none (by omega)]; rfl
    have e2 : X i = ⟨[], []⟩ := by rw [hX]; simp [hi]
    rw [e1, e2]
    simp
section
variable {al : List At} {ps : List Int} {X : Nat → At}
theorem X_gd (hX : X = fun i => al.getD i ⟨[], []⟩) (hg : ∀ a ∈ al, Gd a) {i : Nat} (hi : i < al.length) : Gd (X i) := by
  have : X i = al[i] := by rw [hX]; simp [hi]
  rw [this]
  exact hg _ (List.getElem_mem hi)
noncomputable def redF (ps : List Int) (X : Nat → At) : Nat → List RL.R := (JT.orderF ps).foldr (dnS X ps) ((JT.orderF ps).foldl (upS X ps) (fun i => (X i).P))
theorem red_rows (hX : X = fun i => al.getD i ⟨[], []⟩) (hg : ∀ a ∈ al, Gd a) (h : TreeOk al ps X) {n : Nat} (hn : n < al.length) (x : RL.R) : x ∈ redF ps X n ↔ PrF X (X n).vs (fun i => i < al.length) x := by
  have hnd : ∀ i, i < al.length → (X i).vs.Nodup := fun i hi => (X_gd hX hg hi).nodup
  obtain ⟨-, k2⟩ := up_run hnd (JT.orderF ps) id (fun i => (X i).P) (Own.start h.mem) h.rip h.nd (fun n hn x => by
    have hnl := (h.mem n).1 hn
    have hG := X_gd hX hg hnl
    constructor
    · intro hx
      refine ⟨getF (X n).vs x, fun i hi => ?_, row_getF hG.nodup (hG.len x hx)⟩
      have e : i = n := hi.2
      subst e
      unfold satF
      rw [row_getF hG.nodup (hG.len x hx)]
      exact hx
    · rintro ⟨f, hf, rfl⟩
      exact hf n ⟨hnl, rfl⟩)
  obtain ⟨-, q2⟩ := dn_run hnd (R := (JT.orderF ps).foldl (upS X ps) (fun i => (X i).P)) (JT.orderF ps) h.rip h.nd (fun n hn => (h.mem n).1 hn) (fun n hn => (k2 n hn).imp_right fun ⟨p, D, _, a, b, c⟩ => ⟨p, D, a, b, c⟩)
  exact q2 n ((h.mem n).2 hn) x
end
end
section
open Go.RowKit Go.Sort

theorem foldl_gd {m : Nat} {X : Nat → At} {ps : List Int} : ∀ (l : List Nat) (R : Nat → List RL.R), GdR m X R → GdR m X (l.foldl (upS X ps) R)
  | [], _, h => h
  | c :: t, _, h => foldl_gd t _ (h.up c)
theorem foldr_gd {m : Nat} {X : Nat → At} {ps : List Int} : ∀ (l : List Nat) (R : Nat → List RL.R), GdR m X R → GdR m X (l.foldr (dnS X ps) R)
  | [], _, h => h
  | c :: t, R, h => (foldr_gd t R h).dn c
theorem red_gd {al : List At} {ps : List Int} {X : Nat → At} (hX : X = fun i => al.getD i ⟨[], []⟩) (hg : ∀ a ∈ al, Gd a) : GdR al.length X (redF ps X) :=
  foldr_gd _ _ (foldl_gd _ _ fun _ hi => X_gd hX hg hi)

theorem nodupR_le {l m : List RL.R} (hl : l.Nodup) (h : ∀ x ∈ l, x ∈ m) : l.length ≤ m.length := by
  induction l generalizing m with
  | nil => simp
  | cons a l ih =>
    have ha : a ∈ m := h a (by simp)
    rw [List.nodup_cons] at hl
    have h2 : l.length ≤ (m.erase a).length := ih hl.2 fun x hx => by
      have hne : x ≠ a := fun e => hl.1 (e ▸ hx)
      exact (List.mem_erase_of_ne hne).2 (h x (by simp [hx]))
    rw [List.length_erase_of_mem ha] at h2
    have : 0 < m.length := List.length_pos_of_mem ha
    simp; omega
theorem ss_nodup {X : List RL.R} (h : RL.SS X) : X.Nodup := h.imp fun {a b} hlt e => by subst e; rw [RL.tot_cmpR.self] at hlt; omega
theorem joinL_nodup {U : List Nat} {a b : At} (hU : U.Nodup) (hm : ∀ v, v ∈ U ↔ v ∈ a.vs ∨ v ∈ b.vs) (ha : Gd a) (hb : Gd b) : (joinL U a b).Nodup := by
  unfold joinL
  refine List.pairwise_flatMap.2 ⟨fun x hx => ?_, (ss_nodup ha.ss).imp_of_mem fun {x1 x2} h1 h2 hne z1 hz1 z2 hz2 e => ?_⟩
  · refine List.pairwise_map.2 (List.Pairwise.imp_of_mem (fun {y1 y2} h1 h2 hne e => ?_) ((ss_nodup hb.ss).sublist List.filter_sublist))
    obtain ⟨q1, q2⟩ := mem_gF.1 h1
    obtain ⟨q3, q4⟩ := mem_gF.1 h2
    have e1 := merge_right hU hb.nodup (fun v hv => (hm v).2 (.inr hv)) (hb.len y1 q1) ((key_agr ha hb hx q1).1 q2.symm)
    have e2 := merge_right hU hb.nodup (fun v hv => (hm v).2 (.inr hv)) (hb.len y2 q3) ((key_agr ha hb hx q3).1 q4.symm)
    rw [e] at e1
    exact hne (e1.symm.trans e2)
  · obtain ⟨y1, -, rfl⟩ := List.mem_map.1 hz1
    obtain ⟨y2, -, rfl⟩ := List.mem_map.1 hz2
    have e1 := merge_left (vs := b.vs) (y := y1) hU ha.nodup (fun v hv => (hm v).2 (.inl hv)) (ha.len x1 h1)
    have e2 := merge_left (vs := b.vs) (y := y2) hU ha.nodup (fun v hv => (hm v).2 (.inl hv)) (ha.len x2 h2)
    rw [e] at e1
    exact hne (e1.symm.trans e2)
def Few (X : Nat → At) (m : Nat) : Prop := ∃ (V : List Nat) (J : List RL.R), V.Nodup ∧ (∀ i, i < m → ∀ v ∈ (X i).vs, v ∈ V) ∧ J.length ≤ 60000 ∧ ∀ f, satD X (fun i => i < m) f → rowF V f ∈ J
theorem joinL_few {X : Nat → At} {m : Nat} {U : List Nat} {a b : At} (hF : Few X m) (hU : U.Nodup) (hm : ∀ v, v ∈ U ↔ v ∈ a.vs ∨ v ∈ b.vs) (ha : Gd a) (hb : Gd b) (hUX : ∀ v ∈ U, ∃ i, i < m ∧ v ∈ (X i).vs) (hz : ∀ z ∈ joinL U a b, PrF X U (fun i => i < m) z) : (joinL U a b).length ≤ 60000 := by
  obtain ⟨V, J, h1, h2, h3, h4⟩ := hF
  refine Nat.le_trans (nodupR_le (m := J.map fun r => rowF U (getF V r)) (joinL_nodup hU hm ha hb) fun z hz' => ?_) (by rw [List.length_map]; exact h3)
  obtain ⟨f, hf, rfl⟩ := hz z hz'
  refine List.mem_map.2 ⟨rowF V f, h4 f hf, row_eq.2 fun v hv => ?_⟩
  obtain ⟨i, hi, hvi⟩ := hUX v hv
  exact getF_row h1 f (h2 i hi v hvi)

def handA (X : Nat → At) (keep : Nat → Bool) (J : Nat → At) (c p : Nat) : At := projA (J c) fun v => keep v || decide (v ∈ (X p).vs)
noncomputable def evJ (X : Nat → At) (keep : Nat → Bool) (J : Nat → At) (c p : Nat) : Nat → At := fun n => if n = p then joinA (uniV (J p).vs (handA X keep J c p).vs) (J p) (handA X keep J c p) else J n
theorem ev_next {X : Nat → At} {m : Nat} {ps : List Int} {keep : Nat → Bool} {c : Nat} {t : List Nat} {own : Nat → Nat} {J : Nat → At} (hF : Few X m) (hO : Own X m (c :: t) own) (hrip : JT.PRip ps (fun i v => v ∈ (X i).vs) (c :: t)) (hnd : (c :: t).Nodup)
    (hJ : ∀ n ∈ c :: t, EvI X m keep own n (J n) ∧ Gd (J n)) :
    (t = [] ∧ JT.par ps c < 0) ∨ ∃ p : Nat, p ∈ t ∧ JT.par ps c = (p : Int) ∧ (joinL (uniV (J p).vs (handA X keep J c p).vs) (J p) (handA X keep J c p)).length ≤ 60000 ∧
      ∃ own', Own X m t own' ∧ ∀ n ∈ t, EvI X m keep own' n (evJ X keep J c p n) ∧ Gd (evJ X keep J c p n) := by
  obtain ⟨hct, hnt⟩ := List.nodup_cons.1 hnd
  rcases hrip.1 with h | ⟨p, hp, hpar, hr⟩
  · exact .inl h
  right
  have hpc : p ≠ c := fun e => hct (e ▸ hp)
  obtain ⟨e1, g1⟩ := hJ p (by simp [hp])
  obtain ⟨e2, g2⟩ := hJ c (by simp)
  have hst := ev_step hO hp hct hr e1 e2
  have hgh : Gd (handA X keep J c p) := g2.proj _
  have hUm := fun v => mem_uniV g1.lt hgh.lt v
  have hlen : (joinL (uniV (J p).vs (handA X keep J c p).vs) (J p) (handA X keep J c p)).length ≤ 60000 := by
    refine joinL_few hF (nodup_of_asc (uniV_asc _ _)) hUm g1 hgh (fun v hv => ?_) fun z hz => ?_
    · obtain ⟨i, hi, hvi⟩ := hst.sub v hv
      exact ⟨i, hi.1, hvi⟩
    · have := (hst.rows z).1 (by
        rw [mem_joinA]
        exact (mem_joinL g1 hgh).1 hz)
      exact this
  refine ⟨p, hp, hpar, hlen, _, hO.step hp hct hr, fun n hn => ?_⟩
  have hnc : n ≠ c := fun e => hct (e ▸ hn)
  unfold evJ
  by_cases h : n = p
  · subst h
    rw [if_pos rfl]
    exact ⟨hst, g1.join hgh hlen⟩
  · rw [if_neg h]
    obtain ⟨q1, q2⟩ := hJ n (by simp [hn])
    exact ⟨q1.keep_ hpc hnc h, q2⟩
structure EvF (X : Nat → At) (m : Nat) (keep : Nat → Bool) (a : At) : Prop where
  gd : Gd a
  mem : ∀ v, v ∈ a.vs ↔ keep v = true ∧ ∃ i, i < m ∧ v ∈ (X i).vs
  rows : ∀ x, x ∈ a.P ↔ PrF X a.vs (fun i => i < m) x
theorem ev_end {X : Nat → At} {m : Nat} {keep : Nat → Bool} {c : Nat} {own : Nat → Nat} {a : At} (hO : Own X m [c] own) (hJ : EvI X m keep own c a) (hg : Gd a) : EvF X m keep (projA a keep) where
  gd := hg.proj _
  mem := fun v => by
    have hin : ∀ v, inD X (clF m own c) v ↔ ∃ i, i < m ∧ v ∈ (X i).vs := fun v => ⟨fun ⟨i, hi, hv⟩ => ⟨i, hi.1, hv⟩, fun ⟨i, hi, hv⟩ => ⟨i, ⟨hi, List.mem_singleton.1 (hO.lt i hi)⟩, hv⟩⟩
    show v ∈ a.vs.filter keep ↔ _
    rw [List.mem_filter]
    exact ⟨fun h => ⟨h.2, (hin v).1 (hJ.sub v h.1)⟩, fun h => ⟨hJ.kp v h.1 ((hin v).2 h.2), h.1⟩⟩
  rows := proj_pr (nodup_of_asc hJ.asc) hJ.rows
theorem ev_start {al : List At} {ps : List Int} {X : Nat → At} (hX : X = fun i => al.getD i ⟨[], []⟩) (hg : ∀ a ∈ al, Gd a) (h : TreeOk al ps X) (keep : Nat → Bool) :
    Own X al.length (JT.orderF ps) id ∧ ∀ n ∈ JT.orderF ps, EvI X al.length keep id n ⟨(X n).vs, redF ps X n⟩ ∧ Gd (⟨(X n).vs, redF ps X n⟩ : At) := by
  refine ⟨Own.start h.mem, fun n hn => ?_⟩
  have hnl := (h.mem n).1 hn
  have hG := X_gd hX hg hnl
  have hin : ∀ v, inD X (clF al.length id n) v → v ∈ (X n).vs := fun v ⟨i, hi, hv⟩ => by have e : i = n := hi.2; rw [← e]; exact hv
  exact ⟨⟨hG.asc, hG.lt, fun v hv => ⟨n, ⟨hnl, rfl⟩, hv⟩, fun v hv => hv, fun v _ hv => hin v hv, red_rows hX hg h hnl⟩, red_gd hX hg n hnl⟩
end
section
open Go.RowKit Go.Sort

theorem ra_map {X : List RA} (h : errC X = 0) : (X.map RA.at).map At.ra = X := by
  rw [List.map_map]
  conv => rhs; rw [← List.map_id X]
  exact List.map_congr_left fun a ha => RA.good ((errC_zero h).2 a ha)
theorem errT_zero {X : List RA} {ps : List Int} (h : errT X ps = 0) : errC X = 0 ∧ JT.chkF (graphN (X.map RA.at) : Nat) (graphE (X.map RA.at)) ps = 0 := by
  unfold errT at h
  split at h
  · exact absurd h ‹_›
  · exact ⟨Classical.byContradiction fun h' => ‹¬ errC X ≠ 0› h', h⟩
def atF (X : List RA) : Nat → At := fun i => (X.map RA.at).getD i ⟨[], []⟩
noncomputable def redL (X : List RA) (ps : List Int) : List At := mkL X.length (atF X) (redF ps (atF X))
theorem gds {X : List RA} (hS : ∀ a ∈ X, Small a) (h : errC X = 0) : ∀ a ∈ X.map RA.at, Gd a := fun b hb => by
  obtain ⟨a, ha, rfl⟩ := List.mem_map.1 hb
  exact Gd.of (hS a ha) ((errC_zero h).2 a ha)
def RedM (X : List RA) (ps : List Int) (w : World) (e : Ending) (w' : World) : Prop := ∃ R RC, e = .returned (.tuple #[.slice (some ⟨R, 0, none⟩) X.length RC, .int .i64 0]) ∧ w.heap.size ≤ R ∧ BlkA (fun c => c ≠ R) R w' (redL X ps) ∧ Below w.heap.size w w'
theorem sjReduce_red (PA AA : Option Addr) (PC AC : Nat) (ps : List Int) (X : List RA) (w : World) (hA : AtsM w.heap.size w AA X) (hS : ∀ a ∈ X, Small a) (hp : SlI .i64 w.heap.size w PA ps) (h0 : errT X ps = 0) :
    Calls Tryz.prog 39 #[.agg #[.slice PA ps.length PC], .slice AA X.length AC] w (RedM X ps w) := by
  obtain ⟨h1, h2⟩ := errT_zero h0
  have hT := TreeOk.of (X := atF X) rfl h2
  have hl : (X.map RA.at).length = X.length := List.length_map ..
  have h := sjReduce_ok PA AA PC AC ps (X.map RA.at) w (by rw [ra_map h1]; exact hA) (gds hS h1) hp hT.len hT.root (by rw [hl]; exact (errC_zero h1).1) (atF X) rfl
  rw [hl] at h
  refine h.mono ?_
  rintro e w' ⟨R, RC, g1, g2, g3, g4⟩
  exact ⟨R, RC, g1, g2, g3, g4⟩
end
section
open Go.RowKit Go.Sort

def orF (al : List At) : Nat := al.foldl (fun s a => s ||| setN a.vs) 0
theorem orF_snoc (l : List At) (a : At) : orF (l ++ [a]) = orF l ||| setN a.vs := by unfold orF; rw [List.foldl_append]; rfl
theorem orF_lt {al : List At} (h : ∀ a ∈ al, ∀ v ∈ a.vs, v < 32) : orF al < 4294967296 := by
  have hh : ∀ (l : List At) (s : Nat), (∀ a ∈ l, ∀ v ∈ a.vs, v < 32) → s < 2 ^ 32 → l.foldl (fun s a => s ||| setN a.vs) s < 2 ^ 32 := by
    intro l
    induction l with
    | nil => intro s _ hs; exact hs
    | cons a t ih => intro s hl hs; rw [List.foldl_cons]; exact ih _ (fun b hb => hl b (by simp [hb])) (Nat.or_lt_two_pow hs (setN_lt (hl a (by simp))))
  exact hh al 0 h (by decide)
def bitsL (K : Nat) : List Nat := (List.range 32).filter fun v => K.testBit v
def keepB (K : Nat) : Nat → Bool := fun v => decide (v ∈ bitsL K)
theorem bit_if {K v : Nat} {ks : List Nat} (h : K.testBit v = decide (v ∈ ks)) : K / 2 ^ v % 2 = if v ∈ ks then 1 else 0 := by
  have h1 := Nat.testBit_eq_decide_div_mod_eq (x := K) (i := v)
  rw [h] at h1
  have := decide_eq_decide.1 h1
  by_cases hm : v ∈ ks
  · rw [if_pos hm]; exact this.1 hm
  · rw [if_neg hm]
    have := mt this.2 hm
    omega
theorem keep_bit {K v : Nat} (hv : v < 32) : K.testBit v = decide (v ∈ bitsL K) := by
  unfold bitsL
  rw [eq_comm]
  cases h : K.testBit v <;> simp [h, hv]
theorem keep_or {K v : Nat} {vs : List Nat} (hv : v < 32) : (K ||| setN vs).testBit v = decide (v ∈ bitsL K ++ vs) := by
  rw [Nat.testBit_or, setN_bit, keep_bit hv]
  simp
theorem keep_fun (K : Nat) (vs : List Nat) : (fun v => decide (v ∈ bitsL K ++ vs)) = fun v => keepB K v || decide (v ∈ vs) := funext fun v => by unfold keepB; simp
def EvN (X : Nat → At) (m : Nat) (keep : Nat → Bool) (l : List Nat) (J : Nat → At) : Prop := ∃ own, Own X m l own ∧ ∀ n ∈ l, EvI X m keep own n (J n) ∧ Gd (J n)
theorem ev_round {al : List At} {ps : List Int} {X : Nat → At} (hT : TreeOk al ps X) {keep : Nat → Bool} (hF : Few X al.length) {j : Nat} {O : List Nat} (hO : O = JT.orderF ps) (hj : j < O.length) {J : Nat → At} (h : EvN X al.length keep (O.drop j) J) :
    Gd (J O[j]) ∧ ((JT.par ps O[j] < 0 ∧ j + 1 = O.length ∧ EvF X al.length keep (projA (J O[j]) keep)) ∨
    ∃ p : Nat, JT.par ps O[j] = (p : Int) ∧ p < al.length ∧ j + 1 < O.length ∧ Gd (J p) ∧ (joinL (uniV (J p).vs (handA X keep J O[j] p).vs) (J p) (handA X keep J O[j] p)).length ≤ 60000 ∧ EvN X al.length keep (O.drop (j + 1)) (evJ X keep J O[j] p)) := by
  subst hO
  obtain ⟨own, h1, h2⟩ := h
  rw [List.drop_eq_getElem_cons hj] at h1 h2
  have hrip := PRip.drop j hT.rip
  have hnd := hT.nd.sublist (List.drop_sublist j _)
  rw [List.drop_eq_getElem_cons hj] at hrip hnd
  refine ⟨(h2 _ List.mem_cons_self).2, ?_⟩
  rcases ev_next hF h1 hrip hnd h2 with ⟨e, hp⟩ | ⟨p, hp, hpar, hlen, own', k1, k2⟩
  · left
    rw [e] at h1 h2
    have hl := congrArg List.length e
    rw [List.length_drop, List.length_nil] at hl
    exact ⟨hp, by omega, ev_end h1 (h2 _ (by simp)).1 (h2 _ (by simp)).2⟩
  · right
    have hpos : 0 < (List.drop (j + 1) (JT.orderF ps)).length := List.length_pos_of_mem hp
    rw [List.length_drop] at hpos
    exact ⟨p, hpar, (hT.mem p).1 (List.mem_of_mem_drop hp), by omega, (h2 p (List.mem_cons_of_mem _ hp)).2, hlen, own', k1, k2⟩
theorem ev_first {al : List At} {ps : List Int} {X : Nat → At} (hX : X = fun i => al.getD i ⟨[], []⟩) (hg : ∀ a ∈ al, Gd a) (h : TreeOk al ps X) (keep : Nat → Bool) : EvN X al.length keep ((JT.orderF ps).drop 0) (fun n => ⟨(X n).vs, redF ps X n⟩) := by
  obtain ⟨h1, h2⟩ := ev_start hX hg h keep
  rw [List.drop_zero]
  exact ⟨id, h1, h2⟩
theorem map_set {m p : Nat} {J : Nat → At} {a : At} (hp : p < m) : ((List.range m).map J).set p a = (List.range m).map fun n => if n = p then a else J n := by
  refine List.ext_getElem? fun i => ?_
  by_cases hi : i < m
  · by_cases e : i = p
    · subst e
      rw [List.getElem?_set_self (by simpa using hi), List.getElem?_map, List.getElem?_range hi]; simp
    · rw [List.getElem?_set_ne (fun e' => e e'.symm), List.getElem?_map, List.getElem?_map, List.getElem?_range hi]; simp [e]
  · rw [List.getElem?_eq_none (by simp; omega), List.getElem?_eq_none (by simp; omega)]
theorem map_at {m i : Nat} {J : Nat → At} (hi : i < m) : ((List.range m).map J)[i]? = some (J i) := by rw [List.getElem?_map, List.getElem?_range hi]; rfl
theorem jtOrder_own (PA : Option Addr) (PC : Nat) (ps : List Int) (w : World) (hp : SlI .i64 w.heap.size w PA ps) (hpl : ps.length ≤ 1000000) (hr : JT.rootedB ps = true) :
    Calls Tryz.prog 43 #[.agg #[.slice PA ps.length PC]] w fun e w' => ∃ v, e = .returned (.tuple #[v, .int .i64 0]) ∧ w'.ownsRow w.heap.size 3 1 v (JT.orderF ps).length (natV (JT.orderF ps)) ∧ Below w.heap.size w w' := by
  have HP : Hid (∀ o, SlI .i64 (w.alloc o).heap.size (w.alloc o) PA ps) := fun o => (hp.alloc (Nat.le_refl _) o).more (by simp)
  have HV := Lib.hid (JT.rooted_parts hr).1
  have HR := Lib.hid hr
  clear hp hr
  go_enter Tryz.func43, Tryz.ntmps43
  go_wp2_with fail
  refine (rooted_any PA PC ps _ (HP.out _) hpl).mono ?_
  rw [HR.out]
  rintro e w1 ⟨rfl, hb1⟩
  have hc1 : w1.cell? ⟨w.heap.size, 0, none⟩ = some (.slice PA ps.length PC) := (hb1.cell (p := ⟨w.heap.size, 0, none⟩) (by simp)).trans (by go_simp)
  have HP1 := Lib.hid ((HP.out _).below hb1 (Nat.le_refl _))
  have hbw := Below.box hb1 (by simp)
  have hsz := hb1.size
  clear hb1 HP
  go_wp2_with fail
  refine (order_any PA PC ps _ (HP1.out.more hsz) hpl HV.out).mono ?_
  rintro e w2 ⟨v, rfl, hs, hb2⟩
  have HS := Lib.hid (own_weaken hs hbw.size)
  have hbw2 := Below.then hbw hb2 hbw.size
  clear hs hb2 hbw
  go_wp2
  go_ret2
  exact ⟨_, rfl, HS.out, hbw2⟩
end
section
open Go.RowKit Go.Sort

def EvalPost (X : List RA) (ps : List Int) (K : Nat) (w : World) (e : Ending) (w' : World) : Prop :=
  (errT X ps ≠ 0 → e = .returned (.tuple #[zeroAt, .int .i64 (errT X ps)])) ∧
  (errT X ps = 0 → JT.dif K (orF (X.map RA.at)) ≠ 0 → e = .returned (.tuple #[zeroAt, .int .i64 22])) ∧
  (errT X ps = 0 → JT.dif K (orF (X.map RA.at)) = 0 → ∃ v a, e = .returned (.tuple #[v, .int .i64 0]) ∧ AtV w' v a ∧ EvF (atF X) X.length (keepB K) a) ∧ Below w.heap.size w w'

set_option maxHeartbeats 16000000 in
theorem sjEvaluate_bad (PA AA : Option Addr) (PC AC : Nat) (ps : List Int) (X : List RA) (K : Nat) (w : World) (hA : AtsM w.heap.size w AA X) (hXl : X.length ≤ 9223372036854775807) (hX : ∀ a ∈ X, Small a) (hp : SlI .i64 w.heap.size w PA ps) (hpl : ps.length ≤ 1000000) (h0 : errT X ps ≠ 0) :
    Calls Tryz.prog 22 #[.agg #[.slice PA ps.length PC], .int .u32 (K : Nat), .slice AA X.length AC] w (EvalPost X ps K w) := by
  obtain ⟨W0, hW0⟩ : ∃ W0, W0 = (w.alloc (.cells #[.slice PA ps.length PC] 51)).alloc (.cells #[.slice none 0 0, .int .i64 0, .slice none 0 0] 36) := ⟨_, rfl⟩
  have hx0 : Ext w W0 := by rw [hW0]; exact ((Ext.refl w).alloc _).alloc _
  have hrt : Row W0 w.heap.size 51 [.slice PA ps.length PC] := by rw [hW0]; exact (Row.new w 51 _).alloc _
  have hr6 : Row W0 (w.heap.size + 1) 36 [.slice none 0 0, .int .i64 0, .slice none 0 0] := by
    have h := Row.new (w.alloc (.cells #[.slice PA ps.length PC] 51)) 36 [.slice none 0 0, .int .i64 0, .slice none 0 0]
    rw [World.size_alloc] at h
    rw [hW0]; exact h
  have HCK := Lib.hid (sjCheckTree_any PA AA PC AC ps X W0 (hA.upB hx0.below) hXl hX ((Sl.below hp hx0.below (Nat.le_refl _)).more hx0.size) hpl)
  have HX0 := Lib.hid hx0
  have HR6 := Lib.hid hr6
  have q0 : W0.cell? ⟨w.heap.size, 0, none⟩ = some (.slice PA ps.length PC) := hrt.cell 0
  have q1 := hrt.lt
  clear hA hX hp hx0 hrt hr6
  go_enter Tryz.func22, Tryz.ntmps22
  go_upto_region 1 with (fail)
  rw [← hW0]
  clear hW0
  go_wp2_with fail
  refine HCK.out.mono ?_
  rintro e w1 ⟨rfl, hb1⟩
  have rr := HR6.out.up hb1
  have HRR := Lib.hid rr
  have HB1 := Lib.hid (Below.then HX0.out.below hb1 HX0.out.size)
  have hne : (errT X ps != 0) = true := by simpa using h0
  have HP : Hid (∀ c, c = errT X ps → ∀ w', Below w.heap.size w w' → EvalPost X ps K w (.returned (.tuple #[zeroAt, .int .i64 c])) w') := fun c hc w' hb => ⟨fun _ => by rw [hc], fun h => absurd h h0, fun h => absurd h h0, hb⟩
  have m3 := rr.frozen 0
  have m4 := rr.frozen 1
  have m5 := rr.frozen 2
  have m6 := rr.lt
  have m0 : w1.cell? ⟨w.heap.size + 1, 0, none⟩ = some (.slice none 0 0) := rr.cell 0
  have m1 : w1.cell? ⟨w.heap.size + 1, 1, none⟩ = some (.int .i64 0) := rr.cell 1
  have m2 : w1.cell? ⟨w.heap.size + 1, 2, none⟩ = some (.slice none 0 0) := rr.cell 2
  clear h0 hb1 HCK rr
  generalize hcode : errT X ps = code at *
  go_wp2_with fail
  obtain ⟨V6, hV6⟩ : ∃ V', V' = ((w1.setCell ⟨w.heap.size + 1, 0, none⟩ (.slice none 0 0)).setCell ⟨w.heap.size + 1, 1, none⟩ (.int .i64 0)).setCell ⟨w.heap.size + 1, 2, none⟩ (.slice none 0 0) := ⟨_, rfl⟩
  rw [← hV6]
  have q : Row V6 (w.heap.size + 1) 36 [.slice none 0 0, .int .i64 0, .slice none 0 0] := by rw [hV6]; exact ((HRR.out.set 0 _).set 1 _).set 2 _
  have f0 := q.cell 0
  have f1 := q.cell 1
  have f2 := q.cell 2
  exact bodyPost_ret (v := .tuple #[zeroAt, .int .i64 code]) (by simp [zeroAt, results, Tryz.results22, go_sem, f0, f1, f2]) rfl (HP.out _ rfl _ (by rw [hV6]; exact ((HB1.out.setCell (by show w.heap.size ≤ w.heap.size + 1; omega) _).setCell (by show w.heap.size ≤ w.heap.size + 1; omega) _).setCell (by show w.heap.size ≤ w.heap.size + 1; omega) _))
end
end Go.Proofs.YthgaflmldbgbnaaGreatDoor

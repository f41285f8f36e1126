/- Parts of the proof, merged: Y41, F11, F12, F13. -/
import Derived.Test.YtiomelogggilgaaQ13
import Derived.Test.YtiomelogggilgaaRows
import Derived.Test.YtiomelogggilgaaQ5
import Derived.ProofKit
import Derived.OpenShut
import Derived.ShutString
import Derived.ChangeOld
import Derived.ChangeSame
import Derived.Lib.SmallJoins
import Derived.Deep.Slices
import Derived.Deep.Fields
import Derived.Test.YtiomelogggilgaaQ11

section
/- Walk: LeapfrogRestricts. -/
namespace Go.Proofs.Ytiomelogggilgaa
open Go.RowKit Go.Sort

theorem slRs_one {w : World} {b1 b2 C : Nat} {T T' : TypeId} {x : RL.R} (h1 : Row w b1 T (rcells x)) (h2 : Row w b2 T' [.slice (some ⟨b1, 0, none⟩) x.length C]) (hc : x.length ≤ C) (hm : C ≤ 9223372036854775807) : SlRs w.heap.size w (some ⟨b2, 0, none⟩) [x] := fun _ => by
  refine ⟨b2, 0, rfl, h2.lt, fun i hi => ?_⟩
  have hi0 : i = 0 := by simp at hi; exact hi
  subst hi0
  exact ⟨some ⟨b1, 0, none⟩, C, h2.cell 0, hc, hm, fun _ => ⟨b1, 0, rfl, h1.lt, fun j u hu => by rw [Nat.zero_add]; exact (h1.cell j).trans hu⟩⟩
theorem dv_get {x : RL.R} {k : Nat} (h : k < x.length) : dv x k = x[k] := by
  unfold dv
  rw [List.getD_eq_getElem?_getD, List.getElem?_eq_getElem h]
  rfl

set_option maxRecDepth 4000 in
theorem runLAs2 {w : World} (ty : TypeId) (base : Nat) (v : Value) (n : Nat) (xs : List Value) (hown : w.ownsRow base 52 3 v n xs)
    (A : Option Addr) (m C : Nat) (Z : List (RA × HM)) (hm : Z.length = m) (hz : Sl w.heap.size w A (Z.flatMap outC)) (hn : n + m ≤ 1000000) (hbase : base ≤ w.heap.size) :
    ∃ v' w', (Builtin.append_ #[23, 23] ty #[v, .slice A m C]).run Try.prog w = .ok v' w' ∧ w'.ownsRow base 52 3 v' (n + m) (xs ++ Z.flatMap outC) ∧ w.grownBy w' v.ownBlock ∧ (∀ b, v'.ownBlock = some b → v.ownBlock = some b ∨ b = w.heap.size) := by
  subst hm
  obtain ⟨i0, hi0, hz0, hz1, hz2⟩ := info_parts atomInfo
  have hcell : ∀ ad, A = some ad → ∀ j u, (Z.flatMap outC)[j]? = some u → w.cell? (ad.add j) = some u := fun ad e j u hu => by
    obtain ⟨b, o, e', hb, hc⟩ := hz (by intro h0; rw [h0] at hu; simp at hu)
    rw [e] at e'
    injection e' with e'
    subst e'
    rw [Addr.add_lit]
    exact hc j u hu
  rcases A with _ | ad
  · have hy : Z = [] := by
      refine Classical.byContradiction fun hne => ?_
      obtain ⟨b, o, e', hb, hc⟩ := hz (fun h0 => hne (List.eq_nil_of_length_eq_zero (by have := outC_len Z; rw [h0] at this; simp at this; omega)))
      cases e'
    subst hy
    exact ⟨v, w, run_append_none (P := Try.prog) w base 23 ty 52 i0 3 Try.underlying23 hi0 v n xs hown C, by simpa using hown, ⟨rfl, rfl, rfl, Nat.le_refl _, fun _ _ _ => rfl⟩, fun b hb => .inl hb⟩
  · obtain ⟨v', w', hrun, k2, k3, _, k5⟩ := run_append_own_at (P := Try.prog) w base 23 ty 52 i0 _ 3 56 Try.underlying23 hi0 hz0 hz1 hz2 rfl (by decide) v n xs hown ad Z.length C (Z.flatMap outC) (outC_len Z) (hcell ad rfl) (outC_one Z) (by simp only [maxLen]; omega) (by omega) hbase
    refine ⟨v', w', hrun, k2, k3, fun b hb => ?_⟩
    rcases k5 with k5 | k5
    · exact .inl (by rw [← k5]; exact hb)
    · rw [k5] at hb; injection hb with hb; exact .inr hb.symm
/-- The same at a step of a drawn region. -/
theorem stepLAs2 {w : World} {ops : Array Oper} {o : Oper} {a : Act} {K : Act → World → Prop} {Q : Exit → Act → World → Prop} {E : Prop} (hgd : o.guard = none) (s x : Operand)
    (ho : o.op = .call { callee := .builtin .append, args := #[s, x], argTypes := #[23, 23] })
    (base : Nat) (v : Value) (n : Nat) (xs : List Value) (hs0 : a.eval s = v) (hown : w.ownsRow base 52 3 v n xs)
    (A : Option Addr) (m C : Nat) (Z : List (RA × HM)) (hm : Z.length = m) (hx : a.eval x = .slice A m C) (hz : Sl w.heap.size w A (Z.flatMap outC))
    (hn : n + m ≤ 1000000) (hbase : base ≤ w.heap.size)
    (h : ∀ v' w', w'.ownsRow base 52 3 v' (n + m) (xs ++ Z.flatMap outC) → w.grownBy w' v.ownBlock → (∀ b, v'.ownBlock = some b → v.ownBlock = some b ∨ b = w.heap.size) → K (a.put o.dst v') w') :
    if Region.wanted o (yielded ops a.tmps) = true then Oper.wp Try.prog o a w K Q else E := by
  obtain ⟨v', w', hrun, k2, k3, k4⟩ := runLAs2 o.type base v n xs hown A m C Z hm hz hn hbase
  have hw : Region.wanted o (yielded ops a.tmps) = true := by unfold Region.wanted; rw [hgd]
  rw [if_pos hw]
  unfold Oper.wp execOp
  simp only [ho, resolve, invoke, builtin, Sem.run_bind, Sem.run_pure, Result.andThen_ok, List.map_toArray, List.map_cons, List.map_nil, hs0, hx, hrun]
  exact h v' w' k2 k3 k4
/-- What Join leaves, in one shape. -/
theorem JoinPost.shape {n : Int} {X : List RA} {w w' : World} {e : Ending} (h : JoinPost n X w e w') : ∃ (r s : Value) (q : Int), e = .returned (.tuple #[r, s, .int .i64 q]) ∧ q = errA n X ∧ Below w.heap.size w w' ∧
    (errA n X = 0 → ∃ A C, r = .slice A (joinF n.toNat (X.map RA.at)).length C ∧ (joinF n.toNat (X.map RA.at)).length ≤ C ∧ C ≤ 9223372036854775807 ∧ SlRs w'.heap.size w' A (joinF n.toNat (X.map RA.at))) := by
  obtain ⟨h1, hb, h2⟩ := h
  by_cases he : errA n X = 0
  · obtain ⟨A, C, st, e1, _, _, h3, h4, h5⟩ := h2 he
    exact ⟨_, _, 0, e1, he.symm, hb, fun _ => ⟨A, C, rfl, h3, h4, h5⟩⟩
  · exact ⟨_, _, _, h1 he, rfl, hb, fun h => absurd h he⟩

set_option maxHeartbeats 8000000 in
set_option maxRecDepth 100000 in
theorem l35Restricts_any (a0 p0 q0 : Nat) (h0 : a0 < 256) (hp0 : p0 < 256) (hq0 : q0 < 256) (A : Option Addr) (C : Nat) (l : List LA) (w : World) (hA : AtsL w.heap.size w A l) (hB : LBytes l) (hl : l.length ≤ 3518437208780) :
    Calls Try.prog 5 #[.int .u8 a0, .slice A l.length C, .agg #[.int .u8 p0, .int .u8 q0]] w fun e w' => e = .returned (.bool true) ∧ Below w.heap.size w w' := by
  obtain ⟨W0, hW0⟩ : ∃ W0, W0 = w.alloc (.cells #[.int .u8 (p0 : Nat), .int .u8 (q0 : Nat)] 46) := ⟨_, rfl⟩
  have hr0 : Row W0 w.heap.size 46 [.int .u8 (p0 : Nat), .int .u8 (q0 : Nat)] := by rw [hW0]; exact Row.new w 46 _
  have hx0 : Ext w W0 := by rw [hW0]; exact (Ext.refl w).alloc _
  have HMK := Lib.hid (l35Made2 A C l W0 (by
    intro hn
    obtain ⟨b, o, e, hb, hc⟩ := hA hn
    refine ⟨b, o, e, Nat.lt_of_lt_of_le hb hx0.size, fun i hi => ?_⟩
    obtain ⟨RA, RC, h1, h2, h3, h4⟩ := hc i hi
    exact ⟨RA, RC, (hx0.cell hb).trans h1, (hx0.cell hb).trans h2, (hx0.cell hb).trans h3, (h4.keep fun p hp => hx0.below.cell hp).more hx0.size⟩) hB hl)
  have HR0 := Lib.hid hr0
  have HX0 := Lib.hid hx0
  have hzw := hr0.lt
  clear hA hB hl hr0 hx0
  obtain ⟨m, hm⟩ : ∃ m : Nat, (a0 : Int) % 9 = (m : Int) := ⟨a0 % 9, by omega⟩
  have hm8 : m ≤ 8 := by omega
  have HM := Lib.hid hm
  clear hm
  go_enter Try.func5, Try.ntmps5
  go_wp2_with fail
  rw [← hW0]
  clear hW0
  refine HMK.out.mono ?_
  rintro e w1 ⟨hb1, rfl | ⟨X, A1, A2, A3, C1, C2, C3, rfl, hX, hc1, hd1, ha, -, -⟩⟩
  · have hb1 := Below.then HX0.out.below hb1 HX0.out.size
    clear HMK
    go_wp2_with fail
    refine (l35awake_any _).mono ?_
    rintro e w2 ⟨rfl, hb2⟩
    have hbw := Below.then hb1 hb2 hb1.size
    clear hb1 hb2
    go_wp2
    go_ret
    exact ⟨rfl, hbw⟩
  have HB1 := Lib.hid (Below.then HX0.out.below hb1 HX0.out.size)
  by_cases h6 : X.length ≤ 6
  rotate_left
  · rw [decide_eq_false h6]
    clear HMK hX hc1 hd1 ha hb1
    go_wp2_with fail
    refine (l35awake_any _).mono ?_
    rintro e w2 ⟨rfl, hb2⟩
    have hbw := Below.then HB1.out hb2 HB1.out.size
    clear hb2
    go_wp2
    go_ret
    exact ⟨rfl, hbw⟩
  rw [decide_eq_true h6]
  by_cases hm0 : m = 0
  · have he0 : ((a0 : Int) % 9 == 0) = true := by rw [HM.out, hm0]; rfl
    clear HMK hX hc1 hd1 ha hb1
    go_wp2_with fail
    refine (l35awake_any _).mono ?_
    rintro e w2 ⟨rfl, hb2⟩
    have hbw := Below.then HB1.out hb2 HB1.out.size
    clear hb2
    go_wp2
    go_ret
    exact ⟨rfl, hbw⟩
  have he0 : ((a0 : Int) % 9 == 0) = false := by
    have : (a0 : Int) % 9 ≠ 0 := by rw [HM.out]; omega
    simpa using this
  have hr1 := HR0.out.up hb1
  have f0 : w1.cell? ⟨w.heap.size, 0, none⟩ = some (.int .u8 (p0 : Nat)) := hr1.cell 0
  have f1 : w1.cell? ⟨w.heap.size, 1, none⟩ = some (.int .u8 (q0 : Nat)) := hr1.cell 1
  have hz1 := hr1.lt
  have hne0 : ¬ (a0 : Int) % 9 = 0 := by rw [HM.out]; omega
  obtain ⟨k, hk, hkm⟩ : ∃ k : Nat, (p0 : Int).tmod ((a0 : Int) % 9) = (k : Int) ∧ k < m := ⟨p0 % m, by rw [HM.out]; rfl, Nat.mod_lt _ (by omega)⟩
  have HX := Lib.hid hX
  have HA := Lib.hid ha
  have hq4 : (q0 : Int) % 4 = ((q0 % 4 : Nat) : Int) := by omega
  obtain ⟨W2, hW2⟩ : ∃ W2, W2 = ((w1.alloc (.cells #[.int .i64 1, .int .i64 ((q0 : Int) % 4), .string ⟨#[]⟩] 41)).alloc (.cells #[.int .i64 1, .int .i64 ((q0 : Int) % 4), .string ⟨#[]⟩] 41)).alloc (.cells #[.slice (some ⟨w1.heap.size + 1, 0, none⟩) 1 1] 34) := ⟨_, rfl⟩
  have hx2 : Ext w1 W2 := by rw [hW2]; exact (((Ext.refl w1).alloc _).alloc _).alloc _
  have hrv : Row W2 w1.heap.size 41 (rcells [valI q0]) := by
    have h := Row.new w1 41 (rcells [valI q0])
    rw [hW2, hq4]
    exact (h.alloc _).alloc _
  have hrr : Row W2 (w1.heap.size + 1) 41 (rcells [valI q0]) := by
    have h := Row.new (w1.alloc (.cells #[.int .i64 1, .int .i64 ((q0 % 4 : Nat) : Int), .string ⟨#[]⟩] 41)) 41 (rcells [valI q0])
    rw [show (w1.alloc (.cells #[.int .i64 1, .int .i64 ((q0 % 4 : Nat) : Int), .string ⟨#[]⟩] 41)).heap.size = w1.heap.size + 1 by simp] at h
    rw [hW2, hq4]
    exact h.alloc _
  have hrw : Row W2 (w1.heap.size + 1 + 1) 34 [.slice (some ⟨w1.heap.size + 1, 0, none⟩) 1 1] := by
    have h := Row.new ((w1.alloc (.cells #[.int .i64 1, .int .i64 ((q0 : Int) % 4), .string ⟨#[]⟩] 41)).alloc (.cells #[.int .i64 1, .int .i64 ((q0 : Int) % 4), .string ⟨#[]⟩] 41)) 34 [.slice (some ⟨w1.heap.size + 1, 0, none⟩) 1 1]
    rw [show ((w1.alloc (.cells #[.int .i64 1, .int .i64 ((q0 : Int) % 4), .string ⟨#[]⟩] 41)).alloc (.cells #[.int .i64 1, .int .i64 ((q0 : Int) % 4), .string ⟨#[]⟩] 41)).heap.size = w1.heap.size + 1 + 1 by simp] at h
    rw [hW2]
    exact h
  have HOF := Lib.hid (rlOf_any 1 (some ⟨w1.heap.size + 1 + 1, 0, none⟩) 1 [[valI q0]] W2 (by omega) (by omega) (slRs_one hrr hrw (Nat.le_refl _) (by omega)) (fix_small 0 q0).rsOk (by simp))
  have HE1 : Hid (errF 1 [[valI q0]] = 0) := errF_zero.2 fun x hx => by
    simp at hx
    subst hx
    unfold wrongF
    rw [if_neg (by simp), if_pos]
    exact List.all_eq_true.2 fun c hc => by simp at hc; subst hc; exact valI_valid q0
  have HRV := Lib.hid hrv
  have HB2 := Lib.hid (Below.then HB1.out hx2.below HB1.out.size)
  have HA2 := Lib.hid (HA.out.upB hx2.below)
  clear HMK hX ha hb1 hr1 hrr hrw hrv hx2 HA hq4
  go_wp2_with fail
  rw [← hW2]
  clear hW2 f0 f1
  refine HOF.out.mono ?_
  rintro e w3 ⟨h1, -, hb3⟩
  obtain ⟨rv, rfl, PA, PC, rfl, hpc, hpm, hfr⟩ := h1 HE1.out
  have hof1 : RL.ofF [[valI q0]] = [[valI q0]] := RL.ofF_self (List.pairwise_singleton _ _)
  rw [hof1] at hpc hfr
  have hl1 : (RL.ofF [[valI q0]]).length = 1 := by rw [hof1]; rfl
  rw [hl1]
  have hpc : 1 ≤ PC := hpc
  have HB3 := Lib.hid (Below.then HB2.out hb3 HB2.out.size)
  have hx4 : Ext w3 (w3.alloc (.cells #[.int .i64 1, .slice PA 1 PC] 48)) := (Ext.refl w3).alloc _
  have hrb := Row.new w3 48 [.int .i64 1, .slice PA 1 PC]
  have HRB := Lib.hid hrb
  have HX4 := Lib.hid hx4
  have HS3 := Lib.hid (hfr.sl.upB hx4.below)
  have HRV3 := Lib.hid ((HRV.out.up hb3).up hx4.below)
  have HA3 := Lib.hid ((HA2.out.upB hb3).upB hx4.below)
  have HJ := Lib.hid (joinS_any m A1 C1 X (w3.alloc (.cells #[.int .i64 1, .slice PA 1 PC] 48)) HA3.out (by omega) HX.out (fun _ => by omega))
  have hz3 := hrb.lt
  clear h1 hb3 hfr hof1 hl1 HOF HRV HA2 hx4 hrb
  go_wp2_with fail
  rw [HM.out]
  refine HJ.out.mono ?_
  rintro e w5 hp5
  obtain ⟨r5, s5, q5, rfl, hq5, hb5, hj5⟩ := hp5.shape
  have HP5 := Lib.hid (And.intro hq5 hj5)
  have HB5 := Lib.hid (Below.then (Below.then HB3.out HX4.out.below HB3.out.size) hb5 (by have := HB3.out.size; have := HX4.out.size; omega))
  have hrb5 := HRB.out.up hb5
  have k0 : w5.cell? ⟨w3.heap.size, 0, none⟩ = some (.int .i64 1) := hrb5.cell 0
  have k1 : w5.cell? ⟨w3.heap.size, 1, none⟩ = some (.slice PA 1 PC) := hrb5.cell 1
  have hb14 := hrb5.lt
  have HS5 := Lib.hid (HS3.out.upB hb5)
  have HRV5 := Lib.hid (HRV3.out.up hb5)
  obtain ⟨Z, hZX, hZs, hZe⟩ := (HA3.out.upB hb5).zs
  have HZL : Hid (Z.length = X.length) := by show _ = _; rw [← hZX, List.length_map]
  have HZS := Lib.hid hZs
  have HXF : Hid (∀ a ∈ X ++ [fixA k (valI q0)], Small a) := fun a ha => by
    rcases List.mem_append.1 ha with ha | ha
    · exact HX.out a ha
    · simp at ha; subst ha; exact fix_small k q0
  have HLX : Hid ((X ++ [fixA k (valI q0)]).length = X.length + 1) := by show _ = _; rw [List.length_append]; rfl
  have HFIX : Hid (∀ (bI : Nat) (v9 : Value) (V9 : World), Below w5.heap.size w5 V9 → Row V9 bI 3 [.int .i64 (k : Nat)] → V9.ownsRow w5.heap.size 52 3 v9 (X.length + 1) (Z.flatMap outC ++ [.slice (some ⟨bI, 0, none⟩) 1 1, .int .i64 1, .slice PA 1 PC]) → ∃ A9 D9, v9 = .slice A9 (X.length + 1) D9 ∧ AtsM V9.heap.size V9 A9 (X ++ [fixA k (valI q0)])) := fun bI v9 V9 hb hI ho => by
    have e : (Z ++ [((fixA k (valI q0), (⟨some ⟨bI, 0, none⟩, 1, PA, PC, none, 0⟩ : Go.Proofs.Ytiomelogggilgaa.HM)) : RA × Go.Proofs.Ytiomelogggilgaa.HM)]).flatMap outC = Z.flatMap outC ++ [.slice (some ⟨bI, 0, none⟩) 1 1, .int .i64 1, .slice PA 1 PC] := by
      rw [List.flatMap_append]
      rfl
    rw [← e] at ho
    obtain ⟨A9, D9, h1, -, -, h2⟩ := own_atsM (by rw [List.length_append, HZL.out]; rfl) ho fun z hz => by
      rcases List.mem_append.1 hz with hz | hz
      · exact (hZe z hz).upB hb
      · simp at hz
        subst hz
        refine ⟨by show (ints [k]).length ≤ 1; simp [ints], by show (1 : Nat) ≤ _; omega, by show [[valI q0]].length ≤ PC; exact hpc, hpm, fun _ => ⟨bI, 0, rfl, hI.lt, fun i u hu => ?_⟩, HS5.out.upB hb⟩
        rw [Nat.zero_add]
        exact (hI.cell i).trans hu
    rw [List.map_append, hZX] at h2
    exact ⟨A9, D9, h1, h2⟩
  have hXl7 : X.length ≤ 6 := h6
  clear hp5 hq5 hb5 hj5 hrb5 HJ HA3 HS3 HRV3 hZX hZs
  go_upto_region 9 with (fail)
  go_cut [19, 20, 21] from 66 to 80 (fun r s e wx => Below w5.heap.size w5 wx ∧ ∃ q, e = .int .i64 q ∧ q = errA m (X ++ [fixA k (valI q0)]) ∧ (errA m (X ++ [fixA k (valI q0)]) = 0 → ∃ A C, r = .slice A (joinF (m : Int).toNat ((X ++ [fixA k (valI q0)]).map RA.at)).length C ∧ (joinF (m : Int).toNat ((X ++ [fixA k (valI q0)]).map RA.at)).length ≤ C ∧ C ≤ 9223372036854775807 ∧ SlRs wx.heap.size wx A (joinF (m : Int).toNat ((X ++ [fixA k (valI q0)]).map RA.at))))
  case first =>
    clear hZe
    refine wp_region_held_drew (S := (fun w' => w'.cell? ⟨w3.heap.size, 0, none⟩ = some (.int .i64 1) ∧ w'.cell? ⟨w3.heap.size, 1, none⟩ = some (.slice PA 1 PC))) (by kernel_rfl) ⟨k0, k1⟩ (fun hHeld => ?_)
    obtain ⟨V0, hV0⟩ : ∃ V, V = w5.drew := ⟨_, rfl⟩
    have HV : Hid (Below w5.heap.size w5 V0) := by show Below _ _ _; rw [hV0]; exact ((Ext.refl w5).drew).below
    rw [← hV0]
    clear hV0
    have hHeld0 : V0.cell? ⟨w3.heap.size, 0, none⟩ = some (.int .i64 1) ∧ V0.cell? ⟨w3.heap.size, 1, none⟩ = some (.slice PA 1 PC) := (⟨(HV.out.cell (p := ⟨w3.heap.size, 0, none⟩) hb14).trans k0, (HV.out.cell (p := ⟨w3.heap.size, 1, none⟩) hb14).trans k1⟩ : _ ∧ _)
    refine takeOp (i := 0) (v := ?_) (some 67) rfl rfl (by kernel_rfl) (by kernel_rfl) (by kernel_rfl) (fun _ _ _ h => h) (Or.inl ⟨by rfl, ?_⟩) (by assumption) ?_
    rotate_left 1
    · (intro w0 hSw; (try dsimp only at hSw); go_simp; try (with_reducible rfl))
    try simp only [Act.put]
    try simp only [List.setIfInBounds_toArray]
    try simp only [List.set_cons_succ]
    try simp only [List.set_cons_zero]
    refine takeOp (i := 2) (v := ?_) (some 69) rfl rfl (by kernel_rfl) (by kernel_rfl) (by kernel_rfl) (fun _ _ _ h => h) (Or.inl ⟨by rfl, ?_⟩) (by assumption) ?_
    rotate_left 1
    · (intro w0 hSw; (try dsimp only at hSw); go_simp; try (with_reducible rfl))
    try simp only [Act.put]
    try simp only [List.setIfInBounds_toArray]
    try simp only [List.set_cons_succ]
    try simp only [List.set_cons_zero]
    refine takeOp (i := 4) (v := ?_) (some 71) rfl rfl (by kernel_rfl) (by kernel_rfl) (by kernel_rfl) (fun _ _ _ h => h) (Or.inl ⟨by rfl, ?_⟩) (by assumption) ?_
    rotate_left 1
    · (intro w0 hSw; (try dsimp only at hSw); go_simp; try (with_reducible rfl))
    try simp only [Act.put]
    try simp only [List.setIfInBounds_toArray]
    try simp only [List.set_cons_succ]
    try simp only [List.set_cons_zero]
    refine takeOp (i := 6) (v := ?_) (some 73) rfl rfl (by kernel_rfl) (by kernel_rfl) (by kernel_rfl) (fun _ _ _ h => h) (Or.inl ⟨by rfl, ?_⟩) (by assumption) ?_
    rotate_left 1
    · (intro w0 hSw; (try dsimp only at hSw); go_simp; try (with_reducible rfl))
    try simp only [Act.put]
    try simp only [List.setIfInBounds_toArray]
    try simp only [List.set_cons_succ]
    try simp only [List.set_cons_zero]
    refine wpAnyH_ready (rs := [1, 5]) (by kernel_rfl) (by simp) ?_
    refine (AllReadyH.cons rfl (fun K hK => ?_) (AllReadyH.cons rfl (fun K hK => ?_) AllReadyH.nil))
    · go_simp
      obtain ⟨V1, hV⟩ : ∃ V', V' = V0.alloc (.cells #[] 52) := ⟨_, rfl⟩
      rw [← hV]
      have hx : Ext V0 V1 := by rw [hV]; exact (Ext.refl V0).alloc _
      have HO : Hid (V1.ownsRow w5.heap.size 52 3 (.slice (some ⟨V0.heap.size, 0, none⟩) 0 0) 0 []) := by show World.ownsRow _ _ _ _ _ _ _; rw [hV]; exact own_empty V0 _ _ _ HV.out.size
      have HV := Lib.hid (Below.then HV.out hx.below HV.out.size)
      clear hx hV
      refine hK.out _ _ (⟨(HV.out.cell (p := ⟨w3.heap.size, 0, none⟩) hb14).trans k0, (HV.out.cell (p := ⟨w3.heap.size, 1, none⟩) hb14).trans k1⟩ : _ ∧ _) (fun hHeld => ?_)
      clear hK K
      try simp only [Act.put]
      try simp only [List.setIfInBounds_toArray]
      try simp only [List.set_cons_succ]
      try simp only [List.set_cons_zero]
      refine wpAnyH_ready (rs := [3, 5]) (by kernel_rfl) (by simp) ?_
      refine (AllReadyH.cons rfl (fun K hK => ?_) (AllReadyH.cons rfl (fun K hK => ?_) AllReadyH.nil))
      · refine stepLAs2 (w := V1) rfl (.tmp 68) (.tmp 69) rfl w5.heap.size (.slice (some ⟨V0.heap.size, 0, none⟩) 0 0) 0 [] (by simp [Act.eval]) HO.out A1 X.length C1 Z HZL.out (by simp [Act.eval]) ((Sl.below HZS.out HV.out (Nat.le_refl _)).more HV.out.size) (by omega) HV.out.size ?_
        intro v2 V2 hown hg hat
        rw [Nat.zero_add, List.nil_append] at hown
        have HV := Lib.hid (HV.out.grown hg HV.out.size (fun k hk => own_base HO.out hk))
        have HO := Lib.hid hown
        obtain ⟨A2, D2, rfl, -, -, -⟩ := own_slice hown (by decide)
        clear hown hg hat
        refine hK.out _ _ (⟨(HV.out.cell (p := ⟨w3.heap.size, 0, none⟩) hb14).trans k0, (HV.out.cell (p := ⟨w3.heap.size, 1, none⟩) hb14).trans k1⟩ : _ ∧ _) (fun hHeld => ?_)
        clear hK K
        try simp only [Act.put]
        try simp only [List.setIfInBounds_toArray]
        try simp only [List.set_cons_succ]
        try simp only [List.set_cons_zero]
        refine wpAnyH_ready (rs := [5]) (by kernel_rfl) (by simp) ?_
        refine (AllReadyH.cons rfl (fun K hK => ?_) AllReadyH.nil)
        go_simp
        obtain ⟨V3, hV⟩ : ∃ V', V' = V2.alloc (.cells #[.int .i64 (k : Nat)] 3) := ⟨_, rfl⟩
        rw [← hV]
        have hx : Ext V2 V3 := by rw [hV]; exact (Ext.refl V2).alloc _
        have HDI : Hid (∀ b, ((.slice A2 X.length D2) : Value).ownBlock = some b → b ≠ V2.heap.size) := fun b hb => by have := own_lt HO.out b hb; omega
        have HO := Lib.hid (own_keep HO.out hx.below)
        have HI : Hid (Row V3 V2.heap.size 3 [.int .i64 (k : Nat)]) := by show Row _ _ _ _; rw [hV]; exact Row.new V2 3 _
        have HV := Lib.hid (Below.then HV.out hx.below HV.out.size)
        clear hx hV
        refine hK.out _ _ (⟨(HV.out.cell (p := ⟨w3.heap.size, 0, none⟩) hb14).trans k0, (HV.out.cell (p := ⟨w3.heap.size, 1, none⟩) hb14).trans k1⟩ : _ ∧ _) (fun hHeld => ?_)
        clear hK K
        try simp only [Act.put]
        try simp only [List.setIfInBounds_toArray]
        try simp only [List.set_cons_succ]
        try simp only [List.set_cons_zero]
        refine takeOp (i := 7) (v := ?_) (some 74) rfl rfl (by kernel_rfl) (by kernel_rfl) (by kernel_rfl) (fun _ _ _ h => h) (Or.inl ⟨by rfl, ?_⟩) (by assumption) ?_
        rotate_left 1
        · (intro w0 hSw; (try dsimp only at hSw); go_simp; try (with_reducible rfl))
        try simp only [Act.put]
        try simp only [List.setIfInBounds_toArray]
        try simp only [List.set_cons_succ]
        try simp only [List.set_cons_zero]
        refine wpAnyH_ready (rs := [8]) (by kernel_rfl) (by simp) ?_
        refine (AllReadyH.cons rfl (fun K hK => ?_) AllReadyH.nil)
        go_simp
        obtain ⟨V4, hV⟩ : ∃ V', V' = V3.alloc (.cells #[.slice (some ⟨V2.heap.size, 0, none⟩) 1 1, .int .i64 1, .slice PA 1 PC] 52) := ⟨_, rfl⟩
        rw [← hV]
        have hx : Ext V3 V4 := by rw [hV]; exact (Ext.refl V3).alloc _
        have HDQ : Hid (∀ b, ((.slice A2 X.length D2) : Value).ownBlock = some b → b ≠ V3.heap.size) := fun b hb => by have := own_lt HO.out b hb; omega
        have HO := Lib.hid (own_keep HO.out hx.below)
        have HI := Lib.hid (HI.out.up hx.below)
        have HQ : Hid (Row V4 V3.heap.size 52 [.slice (some ⟨V2.heap.size, 0, none⟩) 1 1, .int .i64 1, .slice PA 1 PC]) := by show Row _ _ _ _; rw [hV]; exact Row.new V3 52 _
        have HV := Lib.hid (Below.then HV.out hx.below HV.out.size)
        clear hx hV
        refine hK.out _ _ (⟨(HV.out.cell (p := ⟨w3.heap.size, 0, none⟩) hb14).trans k0, (HV.out.cell (p := ⟨w3.heap.size, 1, none⟩) hb14).trans k1⟩ : _ ∧ _) (fun hHeld => ?_)
        clear hK K
        try simp only [Act.put]
        try simp only [List.setIfInBounds_toArray]
        try simp only [List.set_cons_succ]
        try simp only [List.set_cons_zero]
        refine wpAnyH_ready (rs := [9]) (by kernel_rfl) (by simp) ?_
        refine (AllReadyH.cons rfl (fun K hK => ?_) AllReadyH.nil)
        refine step1LA (w := V4) rfl (.tmp 70) (.tmp 75) rfl w5.heap.size (.slice A2 X.length D2) X.length (Z.flatMap outC) (by simp [Act.eval]) HO.out V3.heap.size [.slice (some ⟨V2.heap.size, 0, none⟩) 1 1, .int .i64 1, .slice PA 1 PC] (by simp [Act.eval]) HQ.out rfl (by simp [Value.oneCell']) (by omega) HV.out.size ?_
        intro v9 V9 hown hg hat
        have HI := Lib.hid (Row.grown HI.out hg (fun e => HDI.out _ e.symm rfl))
        have HV := Lib.hid (HV.out.grown hg HV.out.size (fun k hk => own_base HO.out hk))
        obtain ⟨A9, D9, rfl, ha9⟩ := HFIX.out V2.heap.size v9 V9 HV.out HI.out hown
        have HJ9 := Lib.hid (joinS_any m A9 D9 (X ++ [fixA k (valI q0)]) V9 ha9 (by rw [HLX.out]; omega) HXF.out (fun _ => by omega))
        rw [HLX.out] at HJ9
        clear hown hg hat ha9
        refine hK.out _ _ (⟨(HV.out.cell (p := ⟨w3.heap.size, 0, none⟩) hb14).trans k0, (HV.out.cell (p := ⟨w3.heap.size, 1, none⟩) hb14).trans k1⟩ : _ ∧ _) (fun hHeld => ?_)
        clear hK K
        try simp only [Act.put]
        try simp only [List.setIfInBounds_toArray]
        try simp only [List.set_cons_succ]
        try simp only [List.set_cons_zero]
        refine wpAnyH_ready (rs := [10]) (by kernel_rfl) (by simp) ?_
        refine (AllReadyH.cons rfl (fun K hK => ?_) AllReadyH.nil)
        go_simp
        refine HJ9.out.mono ?_
        rintro e V10 hp
        obtain ⟨r10, s10, q10, rfl, hq10, hb10, hj10⟩ := hp.shape
        have HV := Lib.hid (Below.then HV.out hb10 HV.out.size)
        have HP := Lib.hid (And.intro hq10 hj10)
        clear hp hq10 hb10 hj10 HJ9
        go_wp2_with fail
        refine hK.out _ _ (⟨(HV.out.cell (p := ⟨w3.heap.size, 0, none⟩) hb14).trans k0, (HV.out.cell (p := ⟨w3.heap.size, 1, none⟩) hb14).trans k1⟩ : _ ∧ _) (fun hHeld => ?_)
        clear hK K
        try simp only [Act.put]
        try simp only [List.setIfInBounds_toArray]
        try simp only [List.set_cons_succ]
        try simp only [List.set_cons_zero]
        refine takeOp (i := 11) (v := ?_) (some 66) rfl rfl (by kernel_rfl) (by kernel_rfl) (by kernel_rfl) (fun _ _ _ h => h) (Or.inl ⟨by rfl, ?_⟩) (by assumption) ?_
        rotate_left 1
        · (intro w0 hSw; (try dsimp only at hSw); go_simp; try (with_reducible rfl))
        try simp only [Act.put]
        try simp only [List.setIfInBounds_toArray]
        try simp only [List.set_cons_succ]
        try simp only [List.set_cons_zero]
        refine takeOp (i := 12) (v := ?_) (some 78) rfl rfl (by kernel_rfl) (by kernel_rfl) (by kernel_rfl) (fun _ _ _ h => h) (Or.inl ⟨by rfl, ?_⟩) (by assumption) ?_
        rotate_left 1
        · (intro w0 hSw; (try dsimp only at hSw); go_simp; try (with_reducible rfl))
        try simp only [Act.put]
        try simp only [List.setIfInBounds_toArray]
        try simp only [List.set_cons_succ]
        try simp only [List.set_cons_zero]
        refine takeOp (i := 13) (v := ?_) (some 79) rfl rfl (by kernel_rfl) (by kernel_rfl) (by kernel_rfl) (fun _ _ _ h => h) (Or.inl ⟨by rfl, ?_⟩) (by assumption) ?_
        rotate_left 1
        · (intro w0 hSw; (try dsimp only at hSw); go_simp; try (with_reducible rfl))
        try simp only [Act.put]
        try simp only [List.setIfInBounds_toArray]
        try simp only [List.set_cons_succ]
        try simp only [List.set_cons_zero]
        refine takeOp (i := 14) (v := ?_) (some 80) rfl rfl (by kernel_rfl) (by kernel_rfl) (by kernel_rfl) (fun _ _ _ h => h) (Or.inl ⟨by rfl, ?_⟩) (by assumption) ?_
        rotate_left 1
        · (intro w0 hSw; (try dsimp only at hSw); go_simp; try (with_reducible rfl))
        try simp only [Act.put]
        try simp only [List.setIfInBounds_toArray]
        try simp only [List.set_cons_succ]
        try simp only [List.set_cons_zero]
        refine takeOp (i := 15) (v := ?_) (some 19) rfl rfl (by kernel_rfl) (by kernel_rfl) (by kernel_rfl) (fun _ _ _ h => h) (Or.inl ⟨by rfl, ?_⟩) (by assumption) ?_
        rotate_left 1
        · (intro w0 hSw; (try dsimp only at hSw); go_simp; try (with_reducible rfl))
        try simp only [Act.put]
        try simp only [List.setIfInBounds_toArray]
        try simp only [List.set_cons_succ]
        try simp only [List.set_cons_zero]
        refine takeOp (i := 16) (v := ?_) (some 20) rfl rfl (by kernel_rfl) (by kernel_rfl) (by kernel_rfl) (fun _ _ _ h => h) (Or.inl ⟨by rfl, ?_⟩) (by assumption) ?_
        rotate_left 1
        · (intro w0 hSw; (try dsimp only at hSw); go_simp; try (with_reducible rfl))
        try simp only [Act.put]
        try simp only [List.setIfInBounds_toArray]
        try simp only [List.set_cons_succ]
        try simp only [List.set_cons_zero]
        refine takeOp (i := 17) (v := ?_) (some 21) rfl rfl (by kernel_rfl) (by kernel_rfl) (by kernel_rfl) (fun _ _ _ h => h) (Or.inl ⟨by rfl, ?_⟩) (by assumption) ?_
        rotate_left 1
        · (intro w0 hSw; (try dsimp only at hSw); go_simp; try (with_reducible rfl))
        try simp only [Act.put]
        try simp only [List.setIfInBounds_toArray]
        try simp only [List.set_cons_succ]
        try simp only [List.set_cons_zero]
        refine wpAnyH_done (by kernel_rfl) ?_ _
        go_wp2_with fail
        go_meet
        case rel => exact ⟨HV.out, q10, rfl, HP.out⟩
      · go_simp
        obtain ⟨V2, hV⟩ : ∃ V', V' = V1.alloc (.cells #[.int .i64 (k : Nat)] 3) := ⟨_, rfl⟩
        rw [← hV]
        have hx : Ext V1 V2 := by rw [hV]; exact (Ext.refl V1).alloc _
        have HDI : Hid (∀ b, ((.slice (some ⟨V0.heap.size, 0, none⟩) 0 0) : Value).ownBlock = some b → b ≠ V1.heap.size) := fun b hb => by have := own_lt HO.out b hb; omega
        have HO := Lib.hid (own_keep HO.out hx.below)
        have HI : Hid (Row V2 V1.heap.size 3 [.int .i64 (k : Nat)]) := by show Row _ _ _ _; rw [hV]; exact Row.new V1 3 _
        have HV := Lib.hid (Below.then HV.out hx.below HV.out.size)
        clear hx hV
        refine hK.out _ _ (⟨(HV.out.cell (p := ⟨w3.heap.size, 0, none⟩) hb14).trans k0, (HV.out.cell (p := ⟨w3.heap.size, 1, none⟩) hb14).trans k1⟩ : _ ∧ _) (fun hHeld => ?_)
        clear hK K
        try simp only [Act.put]
        try simp only [List.setIfInBounds_toArray]
        try simp only [List.set_cons_succ]
        try simp only [List.set_cons_zero]
        refine takeOp (i := 7) (v := ?_) (some 74) rfl rfl (by kernel_rfl) (by kernel_rfl) (by kernel_rfl) (fun _ _ _ h => h) (Or.inl ⟨by rfl, ?_⟩) (by assumption) ?_
        rotate_left 1
        · (intro w0 hSw; (try dsimp only at hSw); go_simp; try (with_reducible rfl))
        try simp only [Act.put]
        try simp only [List.setIfInBounds_toArray]
        try simp only [List.set_cons_succ]
        try simp only [List.set_cons_zero]
        refine wpAnyH_ready (rs := [3, 8]) (by kernel_rfl) (by simp) ?_
        refine (AllReadyH.cons rfl (fun K hK => ?_) (AllReadyH.cons rfl (fun K hK => ?_) AllReadyH.nil))
        · refine stepLAs2 (w := V2) rfl (.tmp 68) (.tmp 69) rfl w5.heap.size (.slice (some ⟨V0.heap.size, 0, none⟩) 0 0) 0 [] (by simp [Act.eval]) HO.out A1 X.length C1 Z HZL.out (by simp [Act.eval]) ((Sl.below HZS.out HV.out (Nat.le_refl _)).more HV.out.size) (by omega) HV.out.size ?_
          intro v3 V3 hown hg hat
          rw [Nat.zero_add, List.nil_append] at hown
          have HDIN : Hid (∀ b, v3.ownBlock = some b → b ≠ V1.heap.size) := fun b hb => (hat b hb).elim (fun e => HDI.out b e) (fun e => by have := HI.out.lt; omega)
          have HI := Lib.hid (Row.grown HI.out hg (fun e => HDI.out _ e.symm rfl))
          have HDI := HDIN
          have HV := Lib.hid (HV.out.grown hg HV.out.size (fun k hk => own_base HO.out hk))
          have HO := Lib.hid hown
          obtain ⟨A3, D3, rfl, -, -, -⟩ := own_slice hown (by decide)
          clear hown hg hat
          refine hK.out _ _ (⟨(HV.out.cell (p := ⟨w3.heap.size, 0, none⟩) hb14).trans k0, (HV.out.cell (p := ⟨w3.heap.size, 1, none⟩) hb14).trans k1⟩ : _ ∧ _) (fun hHeld => ?_)
          clear hK K
          try simp only [Act.put]
          try simp only [List.setIfInBounds_toArray]
          try simp only [List.set_cons_succ]
          try simp only [List.set_cons_zero]
          refine wpAnyH_ready (rs := [8]) (by kernel_rfl) (by simp) ?_
          refine (AllReadyH.cons rfl (fun K hK => ?_) AllReadyH.nil)
          go_simp
          obtain ⟨V4, hV⟩ : ∃ V', V' = V3.alloc (.cells #[.slice (some ⟨V1.heap.size, 0, none⟩) 1 1, .int .i64 1, .slice PA 1 PC] 52) := ⟨_, rfl⟩
          rw [← hV]
          have hx : Ext V3 V4 := by rw [hV]; exact (Ext.refl V3).alloc _
          have HDQ : Hid (∀ b, ((.slice A3 X.length D3) : Value).ownBlock = some b → b ≠ V3.heap.size) := fun b hb => by have := own_lt HO.out b hb; omega
          have HO := Lib.hid (own_keep HO.out hx.below)
          have HI := Lib.hid (HI.out.up hx.below)
          have HQ : Hid (Row V4 V3.heap.size 52 [.slice (some ⟨V1.heap.size, 0, none⟩) 1 1, .int .i64 1, .slice PA 1 PC]) := by show Row _ _ _ _; rw [hV]; exact Row.new V3 52 _
          have HV := Lib.hid (Below.then HV.out hx.below HV.out.size)
          clear hx hV
          refine hK.out _ _ (⟨(HV.out.cell (p := ⟨w3.heap.size, 0, none⟩) hb14).trans k0, (HV.out.cell (p := ⟨w3.heap.size, 1, none⟩) hb14).trans k1⟩ : _ ∧ _) (fun hHeld => ?_)
          clear hK K
          try simp only [Act.put]
          try simp only [List.setIfInBounds_toArray]
          try simp only [List.set_cons_succ]
          try simp only [List.set_cons_zero]
          refine wpAnyH_ready (rs := [9]) (by kernel_rfl) (by simp) ?_
          refine (AllReadyH.cons rfl (fun K hK => ?_) AllReadyH.nil)
          refine step1LA (w := V4) rfl (.tmp 70) (.tmp 75) rfl w5.heap.size (.slice A3 X.length D3) X.length (Z.flatMap outC) (by simp [Act.eval]) HO.out V3.heap.size [.slice (some ⟨V1.heap.size, 0, none⟩) 1 1, .int .i64 1, .slice PA 1 PC] (by simp [Act.eval]) HQ.out rfl (by simp [Value.oneCell']) (by omega) HV.out.size ?_
          intro v9 V9 hown hg hat
          have HI := Lib.hid (Row.grown HI.out hg (fun e => HDI.out _ e.symm rfl))
          have HV := Lib.hid (HV.out.grown hg HV.out.size (fun k hk => own_base HO.out hk))
          obtain ⟨A9, D9, rfl, ha9⟩ := HFIX.out V1.heap.size v9 V9 HV.out HI.out hown
          have HJ9 := Lib.hid (joinS_any m A9 D9 (X ++ [fixA k (valI q0)]) V9 ha9 (by rw [HLX.out]; omega) HXF.out (fun _ => by omega))
          rw [HLX.out] at HJ9
          clear hown hg hat ha9
          refine hK.out _ _ (⟨(HV.out.cell (p := ⟨w3.heap.size, 0, none⟩) hb14).trans k0, (HV.out.cell (p := ⟨w3.heap.size, 1, none⟩) hb14).trans k1⟩ : _ ∧ _) (fun hHeld => ?_)
          clear hK K
          try simp only [Act.put]
          try simp only [List.setIfInBounds_toArray]
          try simp only [List.set_cons_succ]
          try simp only [List.set_cons_zero]
          refine wpAnyH_ready (rs := [10]) (by kernel_rfl) (by simp) ?_
          refine (AllReadyH.cons rfl (fun K hK => ?_) AllReadyH.nil)
          go_simp
          refine HJ9.out.mono ?_
          rintro e V10 hp
          obtain ⟨r10, s10, q10, rfl, hq10, hb10, hj10⟩ := hp.shape
          have HV := Lib.hid (Below.then HV.out hb10 HV.out.size)
          have HP := Lib.hid (And.intro hq10 hj10)
          clear hp hq10 hb10 hj10 HJ9
          go_wp2_with fail
          refine hK.out _ _ (⟨(HV.out.cell (p := ⟨w3.heap.size, 0, none⟩) hb14).trans k0, (HV.out.cell (p := ⟨w3.heap.size, 1, none⟩) hb14).trans k1⟩ : _ ∧ _) (fun hHeld => ?_)
          clear hK K
          try simp only [Act.put]
          try simp only [List.setIfInBounds_toArray]
          try simp only [List.set_cons_succ]
          try simp only [List.set_cons_zero]
          refine takeOp (i := 11) (v := ?_) (some 66) rfl rfl (by kernel_rfl) (by kernel_rfl) (by kernel_rfl) (fun _ _ _ h => h) (Or.inl ⟨by rfl, ?_⟩) (by assumption) ?_
          rotate_left 1
          · (intro w0 hSw; (try dsimp only at hSw); go_simp; try (with_reducible rfl))
          try simp only [Act.put]
          try simp only [List.setIfInBounds_toArray]
          try simp only [List.set_cons_succ]
          try simp only [List.set_cons_zero]
          refine takeOp (i := 12) (v := ?_) (some 78) rfl rfl (by kernel_rfl) (by kernel_rfl) (by kernel_rfl) (fun _ _ _ h => h) (Or.inl ⟨by rfl, ?_⟩) (by assumption) ?_
          rotate_left 1
          · (intro w0 hSw; (try dsimp only at hSw); go_simp; try (with_reducible rfl))
          try simp only [Act.put]
          try simp only [List.setIfInBounds_toArray]
          try simp only [List.set_cons_succ]
          try simp only [List.set_cons_zero]
          refine takeOp (i := 13) (v := ?_) (some 79) rfl rfl (by kernel_rfl) (by kernel_rfl) (by kernel_rfl) (fun _ _ _ h => h) (Or.inl ⟨by rfl, ?_⟩) (by assumption) ?_
          rotate_left 1
          · (intro w0 hSw; (try dsimp only at hSw); go_simp; try (with_reducible rfl))
          try simp only [Act.put]
          try simp only [List.setIfInBounds_toArray]
          try simp only [List.set_cons_succ]
          try simp only [List.set_cons_zero]
          refine takeOp (i := 14) (v := ?_) (some 80) rfl rfl (by kernel_rfl) (by kernel_rfl) (by kernel_rfl) (fun _ _ _ h => h) (Or.inl ⟨by rfl, ?_⟩) (by assumption) ?_
          rotate_left 1
          · (intro w0 hSw; (try dsimp only at hSw); go_simp; try (with_reducible rfl))
          try simp only [Act.put]
          try simp only [List.setIfInBounds_toArray]
          try simp only [List.set_cons_succ]
          try simp only [List.set_cons_zero]
          refine takeOp (i := 15) (v := ?_) (some 19) rfl rfl (by kernel_rfl) (by kernel_rfl) (by kernel_rfl) (fun _ _ _ h => h) (Or.inl ⟨by rfl, ?_⟩) (by assumption) ?_
          rotate_left 1
          · (intro w0 hSw; (try dsimp only at hSw); go_simp; try (with_reducible rfl))
          try simp only [Act.put]
          try simp only [List.setIfInBounds_toArray]
          try simp only [List.set_cons_succ]
          try simp only [List.set_cons_zero]
          refine takeOp (i := 16) (v := ?_) (some 20) rfl rfl (by kernel_rfl) (by kernel_rfl) (by kernel_rfl) (fun _ _ _ h => h) (Or.inl ⟨by rfl, ?_⟩) (by assumption) ?_
          rotate_left 1
          · (intro w0 hSw; (try dsimp only at hSw); go_simp; try (with_reducible rfl))
          try simp only [Act.put]
          try simp only [List.setIfInBounds_toArray]
          try simp only [List.set_cons_succ]
          try simp only [List.set_cons_zero]
          refine takeOp (i := 17) (v := ?_) (some 21) rfl rfl (by kernel_rfl) (by kernel_rfl) (by kernel_rfl) (fun _ _ _ h => h) (Or.inl ⟨by rfl, ?_⟩) (by assumption) ?_
          rotate_left 1
          · (intro w0 hSw; (try dsimp only at hSw); go_simp; try (with_reducible rfl))
          try simp only [Act.put]
          try simp only [List.setIfInBounds_toArray]
          try simp only [List.set_cons_succ]
          try simp only [List.set_cons_zero]
          refine wpAnyH_done (by kernel_rfl) ?_ _
          go_wp2_with fail
          go_meet
          case rel => exact ⟨HV.out, q10, rfl, HP.out⟩
        · go_simp
          obtain ⟨V3, hV⟩ : ∃ V', V' = V2.alloc (.cells #[.slice (some ⟨V1.heap.size, 0, none⟩) 1 1, .int .i64 1, .slice PA 1 PC] 52) := ⟨_, rfl⟩
          rw [← hV]
          have hx : Ext V2 V3 := by rw [hV]; exact (Ext.refl V2).alloc _
          have HDQ : Hid (∀ b, ((.slice (some ⟨V0.heap.size, 0, none⟩) 0 0) : Value).ownBlock = some b → b ≠ V2.heap.size) := fun b hb => by have := own_lt HO.out b hb; omega
          have HO := Lib.hid (own_keep HO.out hx.below)
          have HI := Lib.hid (HI.out.up hx.below)
          have HQ : Hid (Row V3 V2.heap.size 52 [.slice (some ⟨V1.heap.size, 0, none⟩) 1 1, .int .i64 1, .slice PA 1 PC]) := by show Row _ _ _ _; rw [hV]; exact Row.new V2 52 _
          have HV := Lib.hid (Below.then HV.out hx.below HV.out.size)
          clear hx hV
          refine hK.out _ _ (⟨(HV.out.cell (p := ⟨w3.heap.size, 0, none⟩) hb14).trans k0, (HV.out.cell (p := ⟨w3.heap.size, 1, none⟩) hb14).trans k1⟩ : _ ∧ _) (fun hHeld => ?_)
          clear hK K
          try simp only [Act.put]
          try simp only [List.setIfInBounds_toArray]
          try simp only [List.set_cons_succ]
          try simp only [List.set_cons_zero]
          refine wpAnyH_ready (rs := [3]) (by kernel_rfl) (by simp) ?_
          refine (AllReadyH.cons rfl (fun K hK => ?_) AllReadyH.nil)
          refine stepLAs2 (w := V3) rfl (.tmp 68) (.tmp 69) rfl w5.heap.size (.slice (some ⟨V0.heap.size, 0, none⟩) 0 0) 0 [] (by simp [Act.eval]) HO.out A1 X.length C1 Z HZL.out (by simp [Act.eval]) ((Sl.below HZS.out HV.out (Nat.le_refl _)).more HV.out.size) (by omega) HV.out.size ?_
          intro v4 V4 hown hg hat
          rw [Nat.zero_add, List.nil_append] at hown
          have HDIN : Hid (∀ b, v4.ownBlock = some b → b ≠ V1.heap.size) := fun b hb => (hat b hb).elim (fun e => HDI.out b e) (fun e => by have := HI.out.lt; omega)
          have HI := Lib.hid (Row.grown HI.out hg (fun e => HDI.out _ e.symm rfl))
          have HDI := HDIN
          have HDQN : Hid (∀ b, v4.ownBlock = some b → b ≠ V2.heap.size) := fun b hb => (hat b hb).elim (fun e => HDQ.out b e) (fun e => by have := HQ.out.lt; omega)
          have HQ := Lib.hid (Row.grown HQ.out hg (fun e => HDQ.out _ e.symm rfl))
          have HDQ := HDQN
          have HV := Lib.hid (HV.out.grown hg HV.out.size (fun k hk => own_base HO.out hk))
          have HO := Lib.hid hown
          obtain ⟨A4, D4, rfl, -, -, -⟩ := own_slice hown (by decide)
          clear hown hg hat
          refine hK.out _ _ (⟨(HV.out.cell (p := ⟨w3.heap.size, 0, none⟩) hb14).trans k0, (HV.out.cell (p := ⟨w3.heap.size, 1, none⟩) hb14).trans k1⟩ : _ ∧ _) (fun hHeld => ?_)
          clear hK K
          try simp only [Act.put]
          try simp only [List.setIfInBounds_toArray]
          try simp only [List.set_cons_succ]
          try simp only [List.set_cons_zero]
          refine wpAnyH_ready (rs := [9]) (by kernel_rfl) (by simp) ?_
          refine (AllReadyH.cons rfl (fun K hK => ?_) AllReadyH.nil)
          refine step1LA (w := V4) rfl (.tmp 70) (.tmp 75) rfl w5.heap.size (.slice A4 X.length D4) X.length (Z.flatMap outC) (by simp [Act.eval]) HO.out V2.heap.size [.slice (some ⟨V1.heap.size, 0, none⟩) 1 1, .int .i64 1, .slice PA 1 PC] (by simp [Act.eval]) HQ.out rfl (by simp [Value.oneCell']) (by omega) HV.out.size ?_
          intro v9 V9 hown hg hat
          have HI := Lib.hid (Row.grown HI.out hg (fun e => HDI.out _ e.symm rfl))
          have HV := Lib.hid (HV.out.grown hg HV.out.size (fun k hk => own_base HO.out hk))
          obtain ⟨A9, D9, rfl, ha9⟩ := HFIX.out V1.heap.size v9 V9 HV.out HI.out hown
          have HJ9 := Lib.hid (joinS_any m A9 D9 (X ++ [fixA k (valI q0)]) V9 ha9 (by rw [HLX.out]; omega) HXF.out (fun _ => by omega))
          rw [HLX.out] at HJ9
          clear hown hg hat ha9
          refine hK.out _ _ (⟨(HV.out.cell (p := ⟨w3.heap.size, 0, none⟩) hb14).trans k0, (HV.out.cell (p := ⟨w3.heap.size, 1, none⟩) hb14).trans k1⟩ : _ ∧ _) (fun hHeld => ?_)
          clear hK K
          try simp only [Act.put]
          try simp only [List.setIfInBounds_toArray]
          try simp only [List.set_cons_succ]
          try simp only [List.set_cons_zero]
          refine wpAnyH_ready (rs := [10]) (by kernel_rfl) (by simp) ?_
          refine (AllReadyH.cons rfl (fun K hK => ?_) AllReadyH.nil)
          go_simp
          refine HJ9.out.mono ?_
          rintro e V10 hp
          obtain ⟨r10, s10, q10, rfl, hq10, hb10, hj10⟩ := hp.shape
          have HV := Lib.hid (Below.then HV.out hb10 HV.out.size)
          have HP := Lib.hid (And.intro hq10 hj10)
          clear hp hq10 hb10 hj10 HJ9
          go_wp2_with fail
          refine hK.out _ _ (⟨(HV.out.cell (p := ⟨w3.heap.size, 0, none⟩) hb14).trans k0, (HV.out.cell (p := ⟨w3.heap.size, 1, none⟩) hb14).trans k1⟩ : _ ∧ _) (fun hHeld => ?_)
          clear hK K
          try simp only [Act.put]
          try simp only [List.setIfInBounds_toArray]
          try simp only [List.set_cons_succ]
          try simp only [List.set_cons_zero]
          refine takeOp (i := 11) (v := ?_) (some 66) rfl rfl (by kernel_rfl) (by kernel_rfl) (by kernel_rfl) (fun _ _ _ h => h) (Or.inl ⟨by rfl, ?_⟩) (by assumption) ?_
          rotate_left 1
          · (intro w0 hSw; (try dsimp only at hSw); go_simp; try (with_reducible rfl))
          try simp only [Act.put]
          try simp only [List.setIfInBounds_toArray]
          try simp only [List.set_cons_succ]
          try simp only [List.set_cons_zero]
          refine takeOp (i := 12) (v := ?_) (some 78) rfl rfl (by kernel_rfl) (by kernel_rfl) (by kernel_rfl) (fun _ _ _ h => h) (Or.inl ⟨by rfl, ?_⟩) (by assumption) ?_
          rotate_left 1
          · (intro w0 hSw; (try dsimp only at hSw); go_simp; try (with_reducible rfl))
          try simp only [Act.put]
          try simp only [List.setIfInBounds_toArray]
          try simp only [List.set_cons_succ]
          try simp only [List.set_cons_zero]
          refine takeOp (i := 13) (v := ?_) (some 79) rfl rfl (by kernel_rfl) (by kernel_rfl) (by kernel_rfl) (fun _ _ _ h => h) (Or.inl ⟨by rfl, ?_⟩) (by assumption) ?_
          rotate_left 1
          · (intro w0 hSw; (try dsimp only at hSw); go_simp; try (with_reducible rfl))
          try simp only [Act.put]
          try simp only [List.setIfInBounds_toArray]
          try simp only [List.set_cons_succ]
          try simp only [List.set_cons_zero]
          refine takeOp (i := 14) (v := ?_) (some 80) rfl rfl (by kernel_rfl) (by kernel_rfl) (by kernel_rfl) (fun _ _ _ h => h) (Or.inl ⟨by rfl, ?_⟩) (by assumption) ?_
          rotate_left 1
          · (intro w0 hSw; (try dsimp only at hSw); go_simp; try (with_reducible rfl))
          try simp only [Act.put]
          try simp only [List.setIfInBounds_toArray]
          try simp only [List.set_cons_succ]
          try simp only [List.set_cons_zero]
          refine takeOp (i := 15) (v := ?_) (some 19) rfl rfl (by kernel_rfl) (by kernel_rfl) (by kernel_rfl) (fun _ _ _ h => h) (Or.inl ⟨by rfl, ?_⟩) (by assumption) ?_
          rotate_left 1
          · (intro w0 hSw; (try dsimp only at hSw); go_simp; try (with_reducible rfl))
          try simp only [Act.put]
          try simp only [List.setIfInBounds_toArray]
          try simp only [List.set_cons_succ]
          try simp only [List.set_cons_zero]
          refine takeOp (i := 16) (v := ?_) (some 20) rfl rfl (by kernel_rfl) (by kernel_rfl) (by kernel_rfl) (fun _ _ _ h => h) (Or.inl ⟨by rfl, ?_⟩) (by assumption) ?_
          rotate_left 1
          · (intro w0 hSw; (try dsimp only at hSw); go_simp; try (with_reducible rfl))
          try simp only [Act.put]
          try simp only [List.setIfInBounds_toArray]
          try simp only [List.set_cons_succ]
          try simp only [List.set_cons_zero]
          refine takeOp (i := 17) (v := ?_) (some 21) rfl rfl (by kernel_rfl) (by kernel_rfl) (by kernel_rfl) (fun _ _ _ h => h) (Or.inl ⟨by rfl, ?_⟩) (by assumption) ?_
          rotate_left 1
          · (intro w0 hSw; (try dsimp only at hSw); go_simp; try (with_reducible rfl))
          try simp only [Act.put]
          try simp only [List.setIfInBounds_toArray]
          try simp only [List.set_cons_succ]
          try simp only [List.set_cons_zero]
          refine wpAnyH_done (by kernel_rfl) ?_ _
          go_wp2_with fail
          go_meet
          case rel => exact ⟨HV.out, q10, rfl, HP.out⟩
    · go_simp
      obtain ⟨V1, hV⟩ : ∃ V', V' = V0.alloc (.cells #[.int .i64 (k : Nat)] 3) := ⟨_, rfl⟩
      rw [← hV]
      have hx : Ext V0 V1 := by rw [hV]; exact (Ext.refl V0).alloc _
      have HI : Hid (Row V1 V0.heap.size 3 [.int .i64 (k : Nat)]) := by show Row _ _ _ _; rw [hV]; exact Row.new V0 3 _
      have HV := Lib.hid (Below.then HV.out hx.below HV.out.size)
      clear hx hV
      refine hK.out _ _ (⟨(HV.out.cell (p := ⟨w3.heap.size, 0, none⟩) hb14).trans k0, (HV.out.cell (p := ⟨w3.heap.size, 1, none⟩) hb14).trans k1⟩ : _ ∧ _) (fun hHeld => ?_)
      clear hK K
      try simp only [Act.put]
      try simp only [List.setIfInBounds_toArray]
      try simp only [List.set_cons_succ]
      try simp only [List.set_cons_zero]
      refine takeOp (i := 7) (v := ?_) (some 74) rfl rfl (by kernel_rfl) (by kernel_rfl) (by kernel_rfl) (fun _ _ _ h => h) (Or.inl ⟨by rfl, ?_⟩) (by assumption) ?_
      rotate_left 1
      · (intro w0 hSw; (try dsimp only at hSw); go_simp; try (with_reducible rfl))
      try simp only [Act.put]
      try simp only [List.setIfInBounds_toArray]
      try simp only [List.set_cons_succ]
      try simp only [List.set_cons_zero]
      refine wpAnyH_ready (rs := [1, 8]) (by kernel_rfl) (by simp) ?_
      refine (AllReadyH.cons rfl (fun K hK => ?_) (AllReadyH.cons rfl (fun K hK => ?_) AllReadyH.nil))
      · go_simp
        obtain ⟨V2, hV⟩ : ∃ V', V' = V1.alloc (.cells #[] 52) := ⟨_, rfl⟩
        rw [← hV]
        have hx : Ext V1 V2 := by rw [hV]; exact (Ext.refl V1).alloc _
        have HDI : Hid (∀ b, (Value.slice (some ⟨V1.heap.size, 0, none⟩) 0 0).ownBlock = some b → b ≠ V0.heap.size) := fun b hb => by have e : some V1.heap.size = some b := hb; injection e with e; have := HI.out.lt; omega
        have HI := Lib.hid (HI.out.up hx.below)
        have HO : Hid (V2.ownsRow w5.heap.size 52 3 (.slice (some ⟨V1.heap.size, 0, none⟩) 0 0) 0 []) := by show World.ownsRow _ _ _ _ _ _ _; rw [hV]; exact own_empty V1 _ _ _ HV.out.size
        have HV := Lib.hid (Below.then HV.out hx.below HV.out.size)
        clear hx hV
        refine hK.out _ _ (⟨(HV.out.cell (p := ⟨w3.heap.size, 0, none⟩) hb14).trans k0, (HV.out.cell (p := ⟨w3.heap.size, 1, none⟩) hb14).trans k1⟩ : _ ∧ _) (fun hHeld => ?_)
        clear hK K
        try simp only [Act.put]
        try simp only [List.setIfInBounds_toArray]
        try simp only [List.set_cons_succ]
        try simp only [List.set_cons_zero]
        refine wpAnyH_ready (rs := [3, 8]) (by kernel_rfl) (by simp) ?_
        refine (AllReadyH.cons rfl (fun K hK => ?_) (AllReadyH.cons rfl (fun K hK => ?_) AllReadyH.nil))
        · refine stepLAs2 (w := V2) rfl (.tmp 68) (.tmp 69) rfl w5.heap.size (.slice (some ⟨V1.heap.size, 0, none⟩) 0 0) 0 [] (by simp [Act.eval]) HO.out A1 X.length C1 Z HZL.out (by simp [Act.eval]) ((Sl.below HZS.out HV.out (Nat.le_refl _)).more HV.out.size) (by omega) HV.out.size ?_
          intro v3 V3 hown hg hat
          rw [Nat.zero_add, List.nil_append] at hown
          have HDIN : Hid (∀ b, v3.ownBlock = some b → b ≠ V0.heap.size) := fun b hb => (hat b hb).elim (fun e => HDI.out b e) (fun e => by have := HI.out.lt; omega)
          have HI := Lib.hid (Row.grown HI.out hg (fun e => HDI.out _ e.symm rfl))
          have HDI := HDIN
          have HV := Lib.hid (HV.out.grown hg HV.out.size (fun k hk => own_base HO.out hk))
          have HO := Lib.hid hown
          obtain ⟨A3, D3, rfl, -, -, -⟩ := own_slice hown (by decide)
          clear hown hg hat
          refine hK.out _ _ (⟨(HV.out.cell (p := ⟨w3.heap.size, 0, none⟩) hb14).trans k0, (HV.out.cell (p := ⟨w3.heap.size, 1, none⟩) hb14).trans k1⟩ : _ ∧ _) (fun hHeld => ?_)
          clear hK K
          try simp only [Act.put]
          try simp only [List.setIfInBounds_toArray]
          try simp only [List.set_cons_succ]
          try simp only [List.set_cons_zero]
          refine wpAnyH_ready (rs := [8]) (by kernel_rfl) (by simp) ?_
          refine (AllReadyH.cons rfl (fun K hK => ?_) AllReadyH.nil)
          go_simp
          obtain ⟨V4, hV⟩ : ∃ V', V' = V3.alloc (.cells #[.slice (some ⟨V0.heap.size, 0, none⟩) 1 1, .int .i64 1, .slice PA 1 PC] 52) := ⟨_, rfl⟩
          rw [← hV]
          have hx : Ext V3 V4 := by rw [hV]; exact (Ext.refl V3).alloc _
          have HDQ : Hid (∀ b, ((.slice A3 X.length D3) : Value).ownBlock = some b → b ≠ V3.heap.size) := fun b hb => by have := own_lt HO.out b hb; omega
          have HO := Lib.hid (own_keep HO.out hx.below)
          have HI := Lib.hid (HI.out.up hx.below)
          have HQ : Hid (Row V4 V3.heap.size 52 [.slice (some ⟨V0.heap.size, 0, none⟩) 1 1, .int .i64 1, .slice PA 1 PC]) := by show Row _ _ _ _; rw [hV]; exact Row.new V3 52 _
          have HV := Lib.hid (Below.then HV.out hx.below HV.out.size)
          clear hx hV
          refine hK.out _ _ (⟨(HV.out.cell (p := ⟨w3.heap.size, 0, none⟩) hb14).trans k0, (HV.out.cell (p := ⟨w3.heap.size, 1, none⟩) hb14).trans k1⟩ : _ ∧ _) (fun hHeld => ?_)
          clear hK K
          try simp only [Act.put]
          try simp only [List.setIfInBounds_toArray]
          try simp only [List.set_cons_succ]
          try simp only [List.set_cons_zero]
          refine wpAnyH_ready (rs := [9]) (by kernel_rfl) (by simp) ?_
          refine (AllReadyH.cons rfl (fun K hK => ?_) AllReadyH.nil)
          refine step1LA (w := V4) rfl (.tmp 70) (.tmp 75) rfl w5.heap.size (.slice A3 X.length D3) X.length (Z.flatMap outC) (by simp [Act.eval]) HO.out V3.heap.size [.slice (some ⟨V0.heap.size, 0, none⟩) 1 1, .int .i64 1, .slice PA 1 PC] (by simp [Act.eval]) HQ.out rfl (by simp [Value.oneCell']) (by omega) HV.out.size ?_
          intro v9 V9 hown hg hat
          have HI := Lib.hid (Row.grown HI.out hg (fun e => HDI.out _ e.symm rfl))
          have HV := Lib.hid (HV.out.grown hg HV.out.size (fun k hk => own_base HO.out hk))
          obtain ⟨A9, D9, rfl, ha9⟩ := HFIX.out V0.heap.size v9 V9 HV.out HI.out hown
          have HJ9 := Lib.hid (joinS_any m A9 D9 (X ++ [fixA k (valI q0)]) V9 ha9 (by rw [HLX.out]; omega) HXF.out (fun _ => by omega))
          rw [HLX.out] at HJ9
          clear hown hg hat ha9
          refine hK.out _ _ (⟨(HV.out.cell (p := ⟨w3.heap.size, 0, none⟩) hb14).trans k0, (HV.out.cell (p := ⟨w3.heap.size, 1, none⟩) hb14).trans k1⟩ : _ ∧ _) (fun hHeld => ?_)
          clear hK K
          try simp only [Act.put]
          try simp only [List.setIfInBounds_toArray]
          try simp only [List.set_cons_succ]
          try simp only [List.set_cons_zero]
          refine wpAnyH_ready (rs := [10]) (by kernel_rfl) (by simp) ?_
          refine (AllReadyH.cons rfl (fun K hK => ?_) AllReadyH.nil)
          go_simp
          refine HJ9.out.mono ?_
          rintro e V10 hp
          obtain ⟨r10, s10, q10, rfl, hq10, hb10, hj10⟩ := hp.shape
          have HV := Lib.hid (Below.then HV.out hb10 HV.out.size)
          have HP := Lib.hid (And.intro hq10 hj10)
          clear hp hq10 hb10 hj10 HJ9
          go_wp2_with fail
          refine hK.out _ _ (⟨(HV.out.cell (p := ⟨w3.heap.size, 0, none⟩) hb14).trans k0, (HV.out.cell (p := ⟨w3.heap.size, 1, none⟩) hb14).trans k1⟩ : _ ∧ _) (fun hHeld => ?_)
          clear hK K
          try simp only [Act.put]
          try simp only [List.setIfInBounds_toArray]
          try simp only [List.set_cons_succ]
          try simp only [List.set_cons_zero]
          refine takeOp (i := 11) (v := ?_) (some 66) rfl rfl (by kernel_rfl) (by kernel_rfl) (by kernel_rfl) (fun _ _ _ h => h) (Or.inl ⟨by rfl, ?_⟩) (by assumption) ?_
          rotate_left 1
          · (intro w0 hSw; (try dsimp only at hSw); go_simp; try (with_reducible rfl))
          try simp only [Act.put]
          try simp only [List.setIfInBounds_toArray]
          try simp only [List.set_cons_succ]
          try simp only [List.set_cons_zero]
          refine takeOp (i := 12) (v := ?_) (some 78) rfl rfl (by kernel_rfl) (by kernel_rfl) (by kernel_rfl) (fun _ _ _ h => h) (Or.inl ⟨by rfl, ?_⟩) (by assumption) ?_
          rotate_left 1
          · (intro w0 hSw; (try dsimp only at hSw); go_simp; try (with_reducible rfl))
          try simp only [Act.put]
          try simp only [List.setIfInBounds_toArray]
          try simp only [List.set_cons_succ]
          try simp only [List.set_cons_zero]
          refine takeOp (i := 13) (v := ?_) (some 79) rfl rfl (by kernel_rfl) (by kernel_rfl) (by kernel_rfl) (fun _ _ _ h => h) (Or.inl ⟨by rfl, ?_⟩) (by assumption) ?_
          rotate_left 1
          · (intro w0 hSw; (try dsimp only at hSw); go_simp; try (with_reducible rfl))
          try simp only [Act.put]
          try simp only [List.setIfInBounds_toArray]
          try simp only [List.set_cons_succ]
          try simp only [List.set_cons_zero]
          refine takeOp (i := 14) (v := ?_) (some 80) rfl rfl (by kernel_rfl) (by kernel_rfl) (by kernel_rfl) (fun _ _ _ h => h) (Or.inl ⟨by rfl, ?_⟩) (by assumption) ?_
          rotate_left 1
          · (intro w0 hSw; (try dsimp only at hSw); go_simp; try (with_reducible rfl))
          try simp only [Act.put]
          try simp only [List.setIfInBounds_toArray]
          try simp only [List.set_cons_succ]
          try simp only [List.set_cons_zero]
          refine takeOp (i := 15) (v := ?_) (some 19) rfl rfl (by kernel_rfl) (by kernel_rfl) (by kernel_rfl) (fun _ _ _ h => h) (Or.inl ⟨by rfl, ?_⟩) (by assumption) ?_
          rotate_left 1
          · (intro w0 hSw; (try dsimp only at hSw); go_simp; try (with_reducible rfl))
          try simp only [Act.put]
          try simp only [List.setIfInBounds_toArray]
          try simp only [List.set_cons_succ]
          try simp only [List.set_cons_zero]
          refine takeOp (i := 16) (v := ?_) (some 20) rfl rfl (by kernel_rfl) (by kernel_rfl) (by kernel_rfl) (fun _ _ _ h => h) (Or.inl ⟨by rfl, ?_⟩) (by assumption) ?_
          rotate_left 1
          · (intro w0 hSw; (try dsimp only at hSw); go_simp; try (with_reducible rfl))
          try simp only [Act.put]
          try simp only [List.setIfInBounds_toArray]
          try simp only [List.set_cons_succ]
          try simp only [List.set_cons_zero]
          refine takeOp (i := 17) (v := ?_) (some 21) rfl rfl (by kernel_rfl) (by kernel_rfl) (by kernel_rfl) (fun _ _ _ h => h) (Or.inl ⟨by rfl, ?_⟩) (by assumption) ?_
          rotate_left 1
          · (intro w0 hSw; (try dsimp only at hSw); go_simp; try (with_reducible rfl))
          try simp only [Act.put]
          try simp only [List.setIfInBounds_toArray]
          try simp only [List.set_cons_succ]
          try simp only [List.set_cons_zero]
          refine wpAnyH_done (by kernel_rfl) ?_ _
          go_wp2_with fail
          go_meet
          case rel => exact ⟨HV.out, q10, rfl, HP.out⟩
        · go_simp
          obtain ⟨V3, hV⟩ : ∃ V', V' = V2.alloc (.cells #[.slice (some ⟨V0.heap.size, 0, none⟩) 1 1, .int .i64 1, .slice PA 1 PC] 52) := ⟨_, rfl⟩
          rw [← hV]
          have hx : Ext V2 V3 := by rw [hV]; exact (Ext.refl V2).alloc _
          have HDQ : Hid (∀ b, ((.slice (some ⟨V1.heap.size, 0, none⟩) 0 0) : Value).ownBlock = some b → b ≠ V2.heap.size) := fun b hb => by have := own_lt HO.out b hb; omega
          have HO := Lib.hid (own_keep HO.out hx.below)
          have HI := Lib.hid (HI.out.up hx.below)
          have HQ : Hid (Row V3 V2.heap.size 52 [.slice (some ⟨V0.heap.size, 0, none⟩) 1 1, .int .i64 1, .slice PA 1 PC]) := by show Row _ _ _ _; rw [hV]; exact Row.new V2 52 _
          have HV := Lib.hid (Below.then HV.out hx.below HV.out.size)
          clear hx hV
          refine hK.out _ _ (⟨(HV.out.cell (p := ⟨w3.heap.size, 0, none⟩) hb14).trans k0, (HV.out.cell (p := ⟨w3.heap.size, 1, none⟩) hb14).trans k1⟩ : _ ∧ _) (fun hHeld => ?_)
          clear hK K
          try simp only [Act.put]
          try simp only [List.setIfInBounds_toArray]
          try simp only [List.set_cons_succ]
          try simp only [List.set_cons_zero]
          refine wpAnyH_ready (rs := [3]) (by kernel_rfl) (by simp) ?_
          refine (AllReadyH.cons rfl (fun K hK => ?_) AllReadyH.nil)
          refine stepLAs2 (w := V3) rfl (.tmp 68) (.tmp 69) rfl w5.heap.size (.slice (some ⟨V1.heap.size, 0, none⟩) 0 0) 0 [] (by simp [Act.eval]) HO.out A1 X.length C1 Z HZL.out (by simp [Act.eval]) ((Sl.below HZS.out HV.out (Nat.le_refl _)).more HV.out.size) (by omega) HV.out.size ?_
          intro v4 V4 hown hg hat
          rw [Nat.zero_add, List.nil_append] at hown
          have HDIN : Hid (∀ b, v4.ownBlock = some b → b ≠ V0.heap.size) := fun b hb => (hat b hb).elim (fun e => HDI.out b e) (fun e => by have := HI.out.lt; omega)
          have HI := Lib.hid (Row.grown HI.out hg (fun e => HDI.out _ e.symm rfl))
          have HDI := HDIN
          have HDQN : Hid (∀ b, v4.ownBlock = some b → b ≠ V2.heap.size) := fun b hb => (hat b hb).elim (fun e => HDQ.out b e) (fun e => by have := HQ.out.lt; omega)
          have HQ := Lib.hid (Row.grown HQ.out hg (fun e => HDQ.out _ e.symm rfl))
          have HDQ := HDQN
          have HV := Lib.hid (HV.out.grown hg HV.out.size (fun k hk => own_base HO.out hk))
          have HO := Lib.hid hown
          obtain ⟨A4, D4, rfl, -, -, -⟩ := own_slice hown (by decide)
          clear hown hg hat
          refine hK.out _ _ (⟨(HV.out.cell (p := ⟨w3.heap.size, 0, none⟩) hb14).trans k0, (HV.out.cell (p := ⟨w3.heap.size, 1, none⟩) hb14).trans k1⟩ : _ ∧ _) (fun hHeld => ?_)
          clear hK K
          try simp only [Act.put]
          try simp only [List.setIfInBounds_toArray]
          try simp only [List.set_cons_succ]
          try simp only [List.set_cons_zero]
          refine wpAnyH_ready (rs := [9]) (by kernel_rfl) (by simp) ?_
          refine (AllReadyH.cons rfl (fun K hK => ?_) AllReadyH.nil)
          refine step1LA (w := V4) rfl (.tmp 70) (.tmp 75) rfl w5.heap.size (.slice A4 X.length D4) X.length (Z.flatMap outC) (by simp [Act.eval]) HO.out V2.heap.size [.slice (some ⟨V0.heap.size, 0, none⟩) 1 1, .int .i64 1, .slice PA 1 PC] (by simp [Act.eval]) HQ.out rfl (by simp [Value.oneCell']) (by omega) HV.out.size ?_
          intro v9 V9 hown hg hat
          have HI := Lib.hid (Row.grown HI.out hg (fun e => HDI.out _ e.symm rfl))
          have HV := Lib.hid (HV.out.grown hg HV.out.size (fun k hk => own_base HO.out hk))
          obtain ⟨A9, D9, rfl, ha9⟩ := HFIX.out V0.heap.size v9 V9 HV.out HI.out hown
          have HJ9 := Lib.hid (joinS_any m A9 D9 (X ++ [fixA k (valI q0)]) V9 ha9 (by rw [HLX.out]; omega) HXF.out (fun _ => by omega))
          rw [HLX.out] at HJ9
          clear hown hg hat ha9
          refine hK.out _ _ (⟨(HV.out.cell (p := ⟨w3.heap.size, 0, none⟩) hb14).trans k0, (HV.out.cell (p := ⟨w3.heap.size, 1, none⟩) hb14).trans k1⟩ : _ ∧ _) (fun hHeld => ?_)
          clear hK K
          try simp only [Act.put]
          try simp only [List.setIfInBounds_toArray]
          try simp only [List.set_cons_succ]
          try simp only [List.set_cons_zero]
          refine wpAnyH_ready (rs := [10]) (by kernel_rfl) (by simp) ?_
          refine (AllReadyH.cons rfl (fun K hK => ?_) AllReadyH.nil)
          go_simp
          refine HJ9.out.mono ?_
          rintro e V10 hp
          obtain ⟨r10, s10, q10, rfl, hq10, hb10, hj10⟩ := hp.shape
          have HV := Lib.hid (Below.then HV.out hb10 HV.out.size)
          have HP := Lib.hid (And.intro hq10 hj10)
          clear hp hq10 hb10 hj10 HJ9
          go_wp2_with fail
          refine hK.out _ _ (⟨(HV.out.cell (p := ⟨w3.heap.size, 0, none⟩) hb14).trans k0, (HV.out.cell (p := ⟨w3.heap.size, 1, none⟩) hb14).trans k1⟩ : _ ∧ _) (fun hHeld => ?_)
          clear hK K
          try simp only [Act.put]
          try simp only [List.setIfInBounds_toArray]
          try simp only [List.set_cons_succ]
          try simp only [List.set_cons_zero]
          refine takeOp (i := 11) (v := ?_) (some 66) rfl rfl (by kernel_rfl) (by kernel_rfl) (by kernel_rfl) (fun _ _ _ h => h) (Or.inl ⟨by rfl, ?_⟩) (by assumption) ?_
          rotate_left 1
          · (intro w0 hSw; (try dsimp only at hSw); go_simp; try (with_reducible rfl))
          try simp only [Act.put]
          try simp only [List.setIfInBounds_toArray]
          try simp only [List.set_cons_succ]
          try simp only [List.set_cons_zero]
          refine takeOp (i := 12) (v := ?_) (some 78) rfl rfl (by kernel_rfl) (by kernel_rfl) (by kernel_rfl) (fun _ _ _ h => h) (Or.inl ⟨by rfl, ?_⟩) (by assumption) ?_
          rotate_left 1
          · (intro w0 hSw; (try dsimp only at hSw); go_simp; try (with_reducible rfl))
          try simp only [Act.put]
          try simp only [List.setIfInBounds_toArray]
          try simp only [List.set_cons_succ]
          try simp only [List.set_cons_zero]
          refine takeOp (i := 13) (v := ?_) (some 79) rfl rfl (by kernel_rfl) (by kernel_rfl) (by kernel_rfl) (fun _ _ _ h => h) (Or.inl ⟨by rfl, ?_⟩) (by assumption) ?_
          rotate_left 1
          · (intro w0 hSw; (try dsimp only at hSw); go_simp; try (with_reducible rfl))
          try simp only [Act.put]
          try simp only [List.setIfInBounds_toArray]
          try simp only [List.set_cons_succ]
          try simp only [List.set_cons_zero]
          refine takeOp (i := 14) (v := ?_) (some 80) rfl rfl (by kernel_rfl) (by kernel_rfl) (by kernel_rfl) (fun _ _ _ h => h) (Or.inl ⟨by rfl, ?_⟩) (by assumption) ?_
          rotate_left 1
          · (intro w0 hSw; (try dsimp only at hSw); go_simp; try (with_reducible rfl))
          try simp only [Act.put]
          try simp only [List.setIfInBounds_toArray]
          try simp only [List.set_cons_succ]
          try simp only [List.set_cons_zero]
          refine takeOp (i := 15) (v := ?_) (some 19) rfl rfl (by kernel_rfl) (by kernel_rfl) (by kernel_rfl) (fun _ _ _ h => h) (Or.inl ⟨by rfl, ?_⟩) (by assumption) ?_
          rotate_left 1
          · (intro w0 hSw; (try dsimp only at hSw); go_simp; try (with_reducible rfl))
          try simp only [Act.put]
          try simp only [List.setIfInBounds_toArray]
          try simp only [List.set_cons_succ]
          try simp only [List.set_cons_zero]
          refine takeOp (i := 16) (v := ?_) (some 20) rfl rfl (by kernel_rfl) (by kernel_rfl) (by kernel_rfl) (fun _ _ _ h => h) (Or.inl ⟨by rfl, ?_⟩) (by assumption) ?_
          rotate_left 1
          · (intro w0 hSw; (try dsimp only at hSw); go_simp; try (with_reducible rfl))
          try simp only [Act.put]
          try simp only [List.setIfInBounds_toArray]
          try simp only [List.set_cons_succ]
          try simp only [List.set_cons_zero]
          refine takeOp (i := 17) (v := ?_) (some 21) rfl rfl (by kernel_rfl) (by kernel_rfl) (by kernel_rfl) (fun _ _ _ h => h) (Or.inl ⟨by rfl, ?_⟩) (by assumption) ?_
          rotate_left 1
          · (intro w0 hSw; (try dsimp only at hSw); go_simp; try (with_reducible rfl))
          try simp only [Act.put]
          try simp only [List.setIfInBounds_toArray]
          try simp only [List.set_cons_succ]
          try simp only [List.set_cons_zero]
          refine wpAnyH_done (by kernel_rfl) ?_ _
          go_wp2_with fail
          go_meet
          case rel => exact ⟨HV.out, q10, rfl, HP.out⟩
      · go_simp
        obtain ⟨V2, hV⟩ : ∃ V', V' = V1.alloc (.cells #[.slice (some ⟨V0.heap.size, 0, none⟩) 1 1, .int .i64 1, .slice PA 1 PC] 52) := ⟨_, rfl⟩
        rw [← hV]
        have hx : Ext V1 V2 := by rw [hV]; exact (Ext.refl V1).alloc _
        have HI := Lib.hid (HI.out.up hx.below)
        have HQ : Hid (Row V2 V1.heap.size 52 [.slice (some ⟨V0.heap.size, 0, none⟩) 1 1, .int .i64 1, .slice PA 1 PC]) := by show Row _ _ _ _; rw [hV]; exact Row.new V1 52 _
        have HV := Lib.hid (Below.then HV.out hx.below HV.out.size)
        clear hx hV
        refine hK.out _ _ (⟨(HV.out.cell (p := ⟨w3.heap.size, 0, none⟩) hb14).trans k0, (HV.out.cell (p := ⟨w3.heap.size, 1, none⟩) hb14).trans k1⟩ : _ ∧ _) (fun hHeld => ?_)
        clear hK K
        try simp only [Act.put]
        try simp only [List.setIfInBounds_toArray]
        try simp only [List.set_cons_succ]
        try simp only [List.set_cons_zero]
        refine wpAnyH_ready (rs := [1]) (by kernel_rfl) (by simp) ?_
        refine (AllReadyH.cons rfl (fun K hK => ?_) AllReadyH.nil)
        go_simp
        obtain ⟨V3, hV⟩ : ∃ V', V' = V2.alloc (.cells #[] 52) := ⟨_, rfl⟩
        rw [← hV]
        have hx : Ext V2 V3 := by rw [hV]; exact (Ext.refl V2).alloc _
        have HDI : Hid (∀ b, (Value.slice (some ⟨V2.heap.size, 0, none⟩) 0 0).ownBlock = some b → b ≠ V0.heap.size) := fun b hb => by have e : some V2.heap.size = some b := hb; injection e with e; have := HI.out.lt; omega
        have HDQ : Hid (∀ b, (Value.slice (some ⟨V2.heap.size, 0, none⟩) 0 0).ownBlock = some b → b ≠ V1.heap.size) := fun b hb => by have e : some V2.heap.size = some b := hb; injection e with e; have := HQ.out.lt; omega
        have HI := Lib.hid (HI.out.up hx.below)
        have HQ := Lib.hid (HQ.out.up hx.below)
        have HO : Hid (V3.ownsRow w5.heap.size 52 3 (.slice (some ⟨V2.heap.size, 0, none⟩) 0 0) 0 []) := by show World.ownsRow _ _ _ _ _ _ _; rw [hV]; exact own_empty V2 _ _ _ HV.out.size
        have HV := Lib.hid (Below.then HV.out hx.below HV.out.size)
        clear hx hV
        refine hK.out _ _ (⟨(HV.out.cell (p := ⟨w3.heap.size, 0, none⟩) hb14).trans k0, (HV.out.cell (p := ⟨w3.heap.size, 1, none⟩) hb14).trans k1⟩ : _ ∧ _) (fun hHeld => ?_)
        clear hK K
        try simp only [Act.put]
        try simp only [List.setIfInBounds_toArray]
        try simp only [List.set_cons_succ]
        try simp only [List.set_cons_zero]
        refine wpAnyH_ready (rs := [3]) (by kernel_rfl) (by simp) ?_
        refine (AllReadyH.cons rfl (fun K hK => ?_) AllReadyH.nil)
        refine stepLAs2 (w := V3) rfl (.tmp 68) (.tmp 69) rfl w5.heap.size (.slice (some ⟨V2.heap.size, 0, none⟩) 0 0) 0 [] (by simp [Act.eval]) HO.out A1 X.length C1 Z HZL.out (by simp [Act.eval]) ((Sl.below HZS.out HV.out (Nat.le_refl _)).more HV.out.size) (by omega) HV.out.size ?_
        intro v4 V4 hown hg hat
        rw [Nat.zero_add, List.nil_append] at hown
        have HDIN : Hid (∀ b, v4.ownBlock = some b → b ≠ V0.heap.size) := fun b hb => (hat b hb).elim (fun e => HDI.out b e) (fun e => by have := HI.out.lt; omega)
        have HI := Lib.hid (Row.grown HI.out hg (fun e => HDI.out _ e.symm rfl))
        have HDI := HDIN
        have HDQN : Hid (∀ b, v4.ownBlock = some b → b ≠ V1.heap.size) := fun b hb => (hat b hb).elim (fun e => HDQ.out b e) (fun e => by have := HQ.out.lt; omega)
        have HQ := Lib.hid (Row.grown HQ.out hg (fun e => HDQ.out _ e.symm rfl))
        have HDQ := HDQN
        have HV := Lib.hid (HV.out.grown hg HV.out.size (fun k hk => own_base HO.out hk))
        have HO := Lib.hid hown
        obtain ⟨A4, D4, rfl, -, -, -⟩ := own_slice hown (by decide)
        clear hown hg hat
        refine hK.out _ _ (⟨(HV.out.cell (p := ⟨w3.heap.size, 0, none⟩) hb14).trans k0, (HV.out.cell (p := ⟨w3.heap.size, 1, none⟩) hb14).trans k1⟩ : _ ∧ _) (fun hHeld => ?_)
        clear hK K
        try simp only [Act.put]
        try simp only [List.setIfInBounds_toArray]
        try simp only [List.set_cons_succ]
        try simp only [List.set_cons_zero]
        refine wpAnyH_ready (rs := [9]) (by kernel_rfl) (by simp) ?_
        refine (AllReadyH.cons rfl (fun K hK => ?_) AllReadyH.nil)
        refine step1LA (w := V4) rfl (.tmp 70) (.tmp 75) rfl w5.heap.size (.slice A4 X.length D4) X.length (Z.flatMap outC) (by simp [Act.eval]) HO.out V1.heap.size [.slice (some ⟨V0.heap.size, 0, none⟩) 1 1, .int .i64 1, .slice PA 1 PC] (by simp [Act.eval]) HQ.out rfl (by simp [Value.oneCell']) (by omega) HV.out.size ?_
        intro v9 V9 hown hg hat
        have HI := Lib.hid (Row.grown HI.out hg (fun e => HDI.out _ e.symm rfl))
        have HV := Lib.hid (HV.out.grown hg HV.out.size (fun k hk => own_base HO.out hk))
        obtain ⟨A9, D9, rfl, ha9⟩ := HFIX.out V0.heap.size v9 V9 HV.out HI.out hown
        have HJ9 := Lib.hid (joinS_any m A9 D9 (X ++ [fixA k (valI q0)]) V9 ha9 (by rw [HLX.out]; omega) HXF.out (fun _ => by omega))
        rw [HLX.out] at HJ9
        clear hown hg hat ha9
        refine hK.out _ _ (⟨(HV.out.cell (p := ⟨w3.heap.size, 0, none⟩) hb14).trans k0, (HV.out.cell (p := ⟨w3.heap.size, 1, none⟩) hb14).trans k1⟩ : _ ∧ _) (fun hHeld => ?_)
        clear hK K
        try simp only [Act.put]
        try simp only [List.setIfInBounds_toArray]
        try simp only [List.set_cons_succ]
        try simp only [List.set_cons_zero]
        refine wpAnyH_ready (rs := [10]) (by kernel_rfl) (by simp) ?_
        refine (AllReadyH.cons rfl (fun K hK => ?_) AllReadyH.nil)
        go_simp
        refine HJ9.out.mono ?_
        rintro e V10 hp
        obtain ⟨r10, s10, q10, rfl, hq10, hb10, hj10⟩ := hp.shape
        have HV := Lib.hid (Below.then HV.out hb10 HV.out.size)
        have HP := Lib.hid (And.intro hq10 hj10)
        clear hp hq10 hb10 hj10 HJ9
        go_wp2_with fail
        refine hK.out _ _ (⟨(HV.out.cell (p := ⟨w3.heap.size, 0, none⟩) hb14).trans k0, (HV.out.cell (p := ⟨w3.heap.size, 1, none⟩) hb14).trans k1⟩ : _ ∧ _) (fun hHeld => ?_)
        clear hK K
        try simp only [Act.put]
        try simp only [List.setIfInBounds_toArray]
        try simp only [List.set_cons_succ]
        try simp only [List.set_cons_zero]
        refine takeOp (i := 11) (v := ?_) (some 66) rfl rfl (by kernel_rfl) (by kernel_rfl) (by kernel_rfl) (fun _ _ _ h => h) (Or.inl ⟨by rfl, ?_⟩) (by assumption) ?_
        rotate_left 1
        · (intro w0 hSw; (try dsimp only at hSw); go_simp; try (with_reducible rfl))
        try simp only [Act.put]
        try simp only [List.setIfInBounds_toArray]
        try simp only [List.set_cons_succ]
        try simp only [List.set_cons_zero]
        refine takeOp (i := 12) (v := ?_) (some 78) rfl rfl (by kernel_rfl) (by kernel_rfl) (by kernel_rfl) (fun _ _ _ h => h) (Or.inl ⟨by rfl, ?_⟩) (by assumption) ?_
        rotate_left 1
        · (intro w0 hSw; (try dsimp only at hSw); go_simp; try (with_reducible rfl))
        try simp only [Act.put]
        try simp only [List.setIfInBounds_toArray]
        try simp only [List.set_cons_succ]
        try simp only [List.set_cons_zero]
        refine takeOp (i := 13) (v := ?_) (some 79) rfl rfl (by kernel_rfl) (by kernel_rfl) (by kernel_rfl) (fun _ _ _ h => h) (Or.inl ⟨by rfl, ?_⟩) (by assumption) ?_
        rotate_left 1
        · (intro w0 hSw; (try dsimp only at hSw); go_simp; try (with_reducible rfl))
        try simp only [Act.put]
        try simp only [List.setIfInBounds_toArray]
        try simp only [List.set_cons_succ]
        try simp only [List.set_cons_zero]
        refine takeOp (i := 14) (v := ?_) (some 80) rfl rfl (by kernel_rfl) (by kernel_rfl) (by kernel_rfl) (fun _ _ _ h => h) (Or.inl ⟨by rfl, ?_⟩) (by assumption) ?_
        rotate_left 1
        · (intro w0 hSw; (try dsimp only at hSw); go_simp; try (with_reducible rfl))
        try simp only [Act.put]
        try simp only [List.setIfInBounds_toArray]
        try simp only [List.set_cons_succ]
        try simp only [List.set_cons_zero]
        refine takeOp (i := 15) (v := ?_) (some 19) rfl rfl (by kernel_rfl) (by kernel_rfl) (by kernel_rfl) (fun _ _ _ h => h) (Or.inl ⟨by rfl, ?_⟩) (by assumption) ?_
        rotate_left 1
        · (intro w0 hSw; (try dsimp only at hSw); go_simp; try (with_reducible rfl))
        try simp only [Act.put]
        try simp only [List.setIfInBounds_toArray]
        try simp only [List.set_cons_succ]
        try simp only [List.set_cons_zero]
        refine takeOp (i := 16) (v := ?_) (some 20) rfl rfl (by kernel_rfl) (by kernel_rfl) (by kernel_rfl) (fun _ _ _ h => h) (Or.inl ⟨by rfl, ?_⟩) (by assumption) ?_
        rotate_left 1
        · (intro w0 hSw; (try dsimp only at hSw); go_simp; try (with_reducible rfl))
        try simp only [Act.put]
        try simp only [List.setIfInBounds_toArray]
        try simp only [List.set_cons_succ]
        try simp only [List.set_cons_zero]
        refine takeOp (i := 17) (v := ?_) (some 21) rfl rfl (by kernel_rfl) (by kernel_rfl) (by kernel_rfl) (fun _ _ _ h => h) (Or.inl ⟨by rfl, ?_⟩) (by assumption) ?_
        rotate_left 1
        · (intro w0 hSw; (try dsimp only at hSw); go_simp; try (with_reducible rfl))
        try simp only [Act.put]
        try simp only [List.setIfInBounds_toArray]
        try simp only [List.set_cons_succ]
        try simp only [List.set_cons_zero]
        refine wpAnyH_done (by kernel_rfl) ?_ _
        go_wp2_with fail
        go_meet
        case rel => exact ⟨HV.out, q10, rfl, HP.out⟩
  case rest =>
    obtain ⟨hbc, q9, rfl, hq9, hj9⟩ := hcut
    have HBC := Lib.hid (Below.then HB5.out hbc HB5.out.size)
    have HP9 := Lib.hid (And.intro hq9 hj9)
    have HS5X := Lib.hid (fun A (J : List RL.R) (h : SlRs w5.heap.size w5 A J) => h.upB hbc)
    have hrx := HRV5.out.up hbc
    have HRX := Lib.hid hrx
    clear hbc hq9 hj9 hrx hZe HFIX HXF HLX HS5 HZS HZL k0 k1 HRV5
    by_cases he : errA m X = 0
    rotate_left
    · have hnb : (q5 != 0) = true := by
        have := HP5.out.1
        rw [this]
        simpa using he
      clear he
      go_wp2_with fail
      refine (l35awake_any wc).mono ?_
      rintro e w8 ⟨rfl, hb8⟩
      have hbw := Below.then HBC.out hb8 HBC.out.size
      clear hb8
      go_wp2
      go_ret
      exact ⟨rfl, hbw⟩
    obtain ⟨m', hm', hg⟩ := Good0.of HX.out he
    obtain rfl : m = m' := by omega
    obtain ⟨hgf, hjf⟩ := hg.fixed hkm q0 (by omega)
    obtain ⟨A5, C5, rfl, hj1, hj2, hj3⟩ := HP5.out.2 he
    obtain ⟨A9, C9, rfl, hk1, hk2, hk3⟩ := HP9.out.2 hgf.errA
    obtain rfl : q5 = 0 := HP5.out.1.trans he
    obtain rfl : q9 = 0 := HP9.out.1.trans hgf.errA
    rw [Int.toNat_natCast] at hj1 hj3 hk1 hk3 ⊢
    rw [hjf] at hk1 hk3 ⊢
    have hJl := Nat.le_trans hg.len (pow4 hm8)
    have HRS := Lib.hid hg.rsOk
    have HJI := Lib.hid hg.I
    have HJM : Hid (∀ y ∈ joinF m (X.map RA.at), y.length = m) := fun y hy => ((hg.mem y).1 hy).1
    have HSJ := Lib.hid (HS5X.out _ _ hj3)
    generalize joinF m (X.map RA.at) = J at *
    have HSF := Lib.hid hk3
    have HRSF : Hid (RsOk (J.filter fun r => decide (dv r k = valI q0))) := fun x hx => HRS.out x (List.mem_filter.1 hx).1
    have hfl := List.length_filter_le (fun r => decide (dv r k = valI q0)) J
    generalize hF : J.filter (fun r => decide (dv r k = valI q0)) = F at *
    have HF := Lib.hid hF
    clear he hm' hg hgf hjf hj3 hk3 hF HP5 HP9
    go_wp2_with fail
    go_loopw [22, 88] (fun v c wx => ∃ i : Nat, i ≤ J.length ∧ c = .int .i64 i ∧ OwnRs wx wc.heap.size 34 v ((J.take i).filter fun r => decide (dv r k = valI q0)) ∧ Below wc.heap.size wc wx) (fun _ c _ => J.length - (intOf c).toNat)
    case atStart => exact ⟨0, Nat.zero_le _, rfl, OwnRs.nil _ _ _, Below.refl _ _⟩
    case round =>
      obtain ⟨i, hi, rfl, hrs, hbi⟩ := hrel
      have HRI := Lib.hid hrs
      have HBI := Lib.hid hbi
      have hzi := hbi.size
      clear hrs
      by_cases hil : i < J.length
      · obtain ⟨jb, jo, R1, RC1, rfl, hjb, c0, hc0, hm0, s0⟩ := slRs_at HSJ.out hil
        have hrl := HJM.out J[i] (List.getElem_mem hil)
        obtain ⟨x, hx⟩ := HJI.out J[i] (List.getElem_mem hil) (J[i][k]'(by omega)) (List.getElem_mem _)
        obtain ⟨rb, ro, rfl, hrb, e0, e1, e2⟩ := slR_at s0 (i := k) (by omega)
        rw [hx] at e0 e1 e2
        have c0 : wr.cell? ⟨jb, jo + i, none⟩ = some (.slice (some ⟨rb, ro, none⟩) m RC1) := (hbi.cell (p := ⟨jb, jo + i, none⟩) hjb).trans (by rw [c0, hrl])
        have hjb2 : jb < wr.heap.size := by omega
        have hrb2 : rb < wr.heap.size := by omega
        have e0 : wr.cell? ⟨rb, ro + k * 3, none⟩ = some (.int .i64 1) := (hbi.cell (p := ⟨rb, ro + k * 3, none⟩) hrb).trans e0
        have e1 : wr.cell? ⟨rb, ro + k * 3 + 1, none⟩ = some (.int .i64 ((x % 4 : Nat) : Int)) := (hbi.cell (p := ⟨rb, ro + k * 3 + 1, none⟩) hrb).trans e1
        have e2 : wr.cell? ⟨rb, ro + k * 3 + 2, none⟩ = some (.string ⟨#[]⟩) := (hbi.cell (p := ⟨rb, ro + k * 3 + 2, none⟩) hrb).trans e2
        have hrx := HRX.out.up hbi
        have x0 : wr.cell? ⟨w1.heap.size, 0, none⟩ = some (.int .i64 1) := hrx.cell 0
        have x1 : wr.cell? ⟨w1.heap.size, 1, none⟩ = some (.int .i64 ((q0 % 4 : Nat) : Int)) := hrx.cell 1
        have x2 : wr.cell? ⟨w1.heap.size, 2, none⟩ = some (.string ⟨#[]⟩) := hrx.cell 2
        have hxz := hrx.lt
        have HS0 := Lib.hid ((s0.below hbi (Nat.le_refl _)).more hzi)
        have HC0 := Lib.hid (And.intro hc0 hm0)
        have HTK : Hid (J.take (i + 1) = J.take i ++ [J[i]]) := List.take_succ_eq_append_getElem hil
        have HDV : Hid (dv J[i] k = valI x) := (dv_get (by omega)).trans hx
        have HRL := Lib.hid hrl
        have g1 : (0 : Int) ≤ (i : Int) := by omega
        have g2 : (i : Int) < (J.length : Int) := by omega
        have g3 : (0 : Int) ≤ (k : Int) := by omega
        have g4 : (k : Int) < (m : Int) := by omega
        have g5 : decide ((k : Int) < (m : Int)) = true := decide_eq_true (by omega)
        have hw1 : IntKind.i64.wrap ((i : Int) + 1) = ((i + 1 : Nat) : Int) := by rw [IntWalk.i64_in _ (by omega)]; omega
        clear hrx s0 hc0 hm0 hx hrl hbi
        generalize J[i] = r at *
        by_cases hxq : x % 4 = q0 % 4
        · have hq : ((x : Int) % 4 = (q0 : Int) % 4) = True := eq_true (by omega)
          have HFN : Hid ((J.take (i + 1)).filter (fun r => decide (dv r k = valI q0)) = (J.take i).filter (fun r => decide (dv r k = valI q0)) ++ [r]) := by
            show _ = _
            rw [HTK.out, List.filter_append]
            congr 1
            have : dv r k = valI q0 := by rw [HDV.out]; unfold valI; rw [hxq]
            simp [this]
          have HFL : Hid (((J.take i).filter fun r => decide (dv r k = valI q0)).length ≤ 65536) := by
            show _ ≤ _
            refine Nat.le_trans (List.length_filter_le _ _) ?_
            rw [List.length_take]; omega
          clear hxq
          go_wp2
          refine wp_region_held_drew (S := (fun w' => w'.cell? ⟨rb, ro + k * 3, none⟩ = some (.int .i64 1) ∧ w'.cell? ⟨rb, ro + k * 3 + 1, none⟩ = some (.int .i64 ((x % 4 : Nat) : Int)) ∧ w'.cell? ⟨rb, ro + k * 3 + 2, none⟩ = some (.string ⟨#[]⟩) ∧ w'.cell? ⟨w1.heap.size, 0, none⟩ = some (.int .i64 1) ∧ w'.cell? ⟨w1.heap.size, 1, none⟩ = some (.int .i64 ((q0 % 4 : Nat) : Int)) ∧ w'.cell? ⟨w1.heap.size, 2, none⟩ = some (.string ⟨#[]⟩))) (by kernel_rfl) ⟨e0, e1, e2, x0, x1, x2⟩ (fun hHeld => ?_)
          refine takeOp (i := 0) (v := ?_) (some 92) rfl rfl (by kernel_rfl) (by kernel_rfl) (by kernel_rfl) (fun _ _ _ h => h) (Or.inl ⟨by rfl, ?_⟩) (by assumption) ?_
          rotate_left 1
          · (intro w0 hSw; (try dsimp only at hSw); go_simp; try (with_reducible rfl))
          try simp only [Act.put]
          try simp only [List.setIfInBounds_toArray]
          try simp only [List.set_cons_succ]
          try simp only [List.set_cons_zero]
          refine takeOp (i := 1) (v := ?_) (some 93) rfl rfl (by kernel_rfl) (by kernel_rfl) (by kernel_rfl) (fun _ _ _ h => h) (Or.inl ⟨by rfl, ?_⟩) (by assumption) ?_
          rotate_left 1
          · (intro w0 hSw; (try dsimp only at hSw); go_simp; try (with_reducible rfl))
          try simp only [Act.put]
          try simp only [List.setIfInBounds_toArray]
          try simp only [List.set_cons_succ]
          try simp only [List.set_cons_zero]
          refine takeOp (i := 2) (v := ?_) (some 94) rfl rfl (by kernel_rfl) (by kernel_rfl) (by kernel_rfl) (fun _ _ _ h => h) (Or.inl ⟨by rfl, ?_⟩) (by assumption) ?_
          rotate_left 1
          · (intro w0 hSw; (try dsimp only at hSw); go_simp; try (with_reducible rfl))
          try simp only [Act.put]
          try simp only [List.setIfInBounds_toArray]
          try simp only [List.set_cons_succ]
          try simp only [List.set_cons_zero]
          refine takeOp (i := 3) (v := ?_) (some 95) rfl rfl (by kernel_rfl) (by kernel_rfl) (by kernel_rfl) (fun _ _ _ h => h) (Or.inl ⟨by rfl, ?_⟩) (by assumption) ?_
          rotate_left 1
          · (intro w0 hSw; (try dsimp only at hSw); go_simp; try (with_reducible rfl))
          try simp only [Act.put]
          try simp only [List.setIfInBounds_toArray]
          try simp only [List.set_cons_succ]
          try simp only [List.set_cons_zero]
          refine takeOp (i := 4) (v := ?_) (some 96) rfl rfl (by kernel_rfl) (by kernel_rfl) (by kernel_rfl) (fun _ _ _ h => h) (Or.inl ⟨by rfl, ?_⟩) (by assumption) ?_
          rotate_left 1
          · (intro w0 hSw; (try dsimp only at hSw); go_simp; try (with_reducible rfl))
          try simp only [Act.put]
          try simp only [List.setIfInBounds_toArray]
          try simp only [List.set_cons_succ]
          try simp only [List.set_cons_zero]
          refine takeOp (i := 5) (v := ?_) (some 97) rfl rfl (by kernel_rfl) (by kernel_rfl) (by kernel_rfl) (fun _ _ _ h => h) (Or.inl ⟨by rfl, ?_⟩) (by assumption) ?_
          rotate_left 1
          · (intro w0 hSw; (try dsimp only at hSw); go_simp; try (with_reducible rfl))
          try simp only [Act.put]
          try simp only [List.setIfInBounds_toArray]
          try simp only [List.set_cons_succ]
          try simp only [List.set_cons_zero]
          refine takeOp (i := 6) (v := ?_) (some 98) rfl rfl (by kernel_rfl) (by kernel_rfl) (by kernel_rfl) (fun _ _ _ h => h) (Or.inl ⟨by rfl, ?_⟩) (by assumption) ?_
          rotate_left 1
          · (intro w0 hSw; (try dsimp only at hSw); go_simp; try (with_reducible rfl))
          try simp only [Act.put]
          try simp only [List.setIfInBounds_toArray]
          try simp only [List.set_cons_succ]
          try simp only [List.set_cons_zero]
          refine takeOp (i := 7) (v := ?_) (some 99) rfl rfl (by kernel_rfl) (by kernel_rfl) (by kernel_rfl) (fun _ _ _ h => h) (Or.inl ⟨by rfl, ?_⟩) (by assumption) ?_
          rotate_left 1
          · (intro w0 hSw; (try dsimp only at hSw); go_simp; try (with_reducible rfl))
          try simp only [Act.put]
          try simp only [List.setIfInBounds_toArray]
          try simp only [List.set_cons_succ]
          try simp only [List.set_cons_zero]
          refine takeOp (i := 8) (v := ?_) (some 100) rfl rfl (by kernel_rfl) (by kernel_rfl) (by kernel_rfl) (fun _ _ _ h => h) (Or.inl ⟨by rfl, ?_⟩) (by assumption) ?_
          rotate_left 1
          · (intro w0 hSw; (try dsimp only at hSw); go_simp; try (with_reducible rfl))
          try simp only [Act.put]
          try simp only [List.setIfInBounds_toArray]
          try simp only [List.set_cons_succ]
          try simp only [List.set_cons_zero]
          refine takeOp (i := 9) (v := ?_) (some 101) rfl rfl (by kernel_rfl) (by kernel_rfl) (by kernel_rfl) (fun _ _ _ h => h) (Or.inl ⟨by rfl, ?_⟩) (by assumption) ?_
          rotate_left 1
          · (intro w0 hSw; (try dsimp only at hSw); go_simp; try (with_reducible rfl))
          try simp only [Act.put]
          try simp only [List.setIfInBounds_toArray]
          try simp only [List.set_cons_succ]
          try simp only [List.set_cons_zero]
          refine takeOp (i := 10) (v := ?_) (some 102) rfl rfl (by kernel_rfl) (by kernel_rfl) (by kernel_rfl) (fun _ _ _ h => h) (Or.inl ⟨by rfl, ?_⟩) (by assumption) ?_
          rotate_left 1
          · (intro w0 hSw; (try dsimp only at hSw); go_simp; try (with_reducible rfl))
          try simp only [Act.put]
          try simp only [List.setIfInBounds_toArray]
          try simp only [List.set_cons_succ]
          try simp only [List.set_cons_zero]
          refine takeOp (i := 11) (v := ?_) (some 103) rfl rfl (by kernel_rfl) (by kernel_rfl) (by kernel_rfl) (fun _ _ _ h => h) (Or.inl ⟨by rfl, ?_⟩) (by assumption) ?_
          rotate_left 1
          · (intro w0 hSw; (try dsimp only at hSw); go_simp; try (with_reducible rfl))
          try simp only [Act.put]
          try simp only [List.setIfInBounds_toArray]
          try simp only [List.set_cons_succ]
          try simp only [List.set_cons_zero]
          refine wpAnyH_done (by kernel_rfl) ?_ _
          have hx8 : Ext wr ((wr.alloc (.cells #[.slice (some ⟨rb, ro, none⟩) m RC1] 34)).drew) := ((Ext.refl wr).alloc _).drew
          have HX8 := Lib.hid hx8
          have HR8 := Lib.hid (HRI.out.keep hx8.below)
          have HS8 := Lib.hid ((HS0.out.below hx8.below (Nat.le_refl _)).more hx8.size)
          have HC8 : Hid (((wr.alloc (.cells #[.slice (some ⟨rb, ro, none⟩) m RC1] 34)).drew).cell? ⟨wr.heap.size, 0, none⟩ = some (.slice (some ⟨rb, ro, none⟩) r.length RC1)) := by
            show _ = _
            rw [HRL.out]
            exact (Row.new wr 34 [.slice (some ⟨rb, ro, none⟩) m RC1]).cell 0
          clear e0 e1 e2 x0 x1 x2 c0 hq hx8
          go_wp2_with
            (at_builtin
             refine app1Row rfl (.tmp 104) (.tmp 106) rfl wc.heap.size u22 ((J.take i).filter fun r => decide (dv r k = valI q0)) rfl HR8.out wr.heap.size (some ⟨rb, ro, none⟩) RC1 r rfl HC8.out HS8.out HC0.out.1 HC0.out.2 (fun _ ad e e2 => by injection e with e; subst e; have h := HRI.out.base _ e2; simp only at h; omega) (by have := HFL.out; omega) (Nat.le_trans hzi HX8.out.size) ?_
             intro v' w7 hown7 hg7
             rw [← HFN.out] at hown7
             have HO7 := Lib.hid hown7
             have HB7 := Lib.hid ((Below.then HBI.out HX8.out.below hzi).grown hg7 (Nat.le_trans hzi HX8.out.size) HRI.out.base)
             clear hown7 hg7)
          go_wp2
          go_roundw
          case rel => exact ⟨i + 1, hil, by go_num, HO7.out, HB7.out⟩
          case measure => simp [intOf]; omega
        · have hq : ¬ (x : Int) % 4 = (q0 : Int) % 4 := by omega
          have HFN : Hid ((J.take (i + 1)).filter (fun r => decide (dv r k = valI q0)) = (J.take i).filter (fun r => decide (dv r k = valI q0))) := by
            show _ = _
            rw [HTK.out, List.filter_append]
            have : ¬ dv r k = valI q0 := by
              rw [HDV.out]
              intro h
              have h2 := congrArg RL.V.int h
              have h3 : ((x % 4 : Nat) : Int) = ((q0 % 4 : Nat) : Int) := h2
              omega
            simp [this]
          clear hxq
          go_wp2
          refine wp_region_held_drew (S := (fun w' => w'.cell? ⟨rb, ro + k * 3, none⟩ = some (.int .i64 1) ∧ w'.cell? ⟨rb, ro + k * 3 + 1, none⟩ = some (.int .i64 ((x % 4 : Nat) : Int)) ∧ w'.cell? ⟨rb, ro + k * 3 + 2, none⟩ = some (.string ⟨#[]⟩) ∧ w'.cell? ⟨w1.heap.size, 0, none⟩ = some (.int .i64 1) ∧ w'.cell? ⟨w1.heap.size, 1, none⟩ = some (.int .i64 ((q0 % 4 : Nat) : Int)) ∧ w'.cell? ⟨w1.heap.size, 2, none⟩ = some (.string ⟨#[]⟩))) (by kernel_rfl) ⟨e0, e1, e2, x0, x1, x2⟩ (fun hHeld => ?_)
          refine takeOp (i := 0) (v := ?_) (some 92) rfl rfl (by kernel_rfl) (by kernel_rfl) (by kernel_rfl) (fun _ _ _ h => h) (Or.inl ⟨by rfl, ?_⟩) (by assumption) ?_
          rotate_left 1
          · (intro w0 hSw; (try dsimp only at hSw); go_simp; try (with_reducible rfl))
          try simp only [Act.put]
          try simp only [List.setIfInBounds_toArray]
          try simp only [List.set_cons_succ]
          try simp only [List.set_cons_zero]
          refine takeOp (i := 1) (v := ?_) (some 93) rfl rfl (by kernel_rfl) (by kernel_rfl) (by kernel_rfl) (fun _ _ _ h => h) (Or.inl ⟨by rfl, ?_⟩) (by assumption) ?_
          rotate_left 1
          · (intro w0 hSw; (try dsimp only at hSw); go_simp; try (with_reducible rfl))
          try simp only [Act.put]
          try simp only [List.setIfInBounds_toArray]
          try simp only [List.set_cons_succ]
          try simp only [List.set_cons_zero]
          refine takeOp (i := 2) (v := ?_) (some 94) rfl rfl (by kernel_rfl) (by kernel_rfl) (by kernel_rfl) (fun _ _ _ h => h) (Or.inl ⟨by rfl, ?_⟩) (by assumption) ?_
          rotate_left 1
          · (intro w0 hSw; (try dsimp only at hSw); go_simp; try (with_reducible rfl))
          try simp only [Act.put]
          try simp only [List.setIfInBounds_toArray]
          try simp only [List.set_cons_succ]
          try simp only [List.set_cons_zero]
          refine takeOp (i := 3) (v := ?_) (some 95) rfl rfl (by kernel_rfl) (by kernel_rfl) (by kernel_rfl) (fun _ _ _ h => h) (Or.inl ⟨by rfl, ?_⟩) (by assumption) ?_
          rotate_left 1
          · (intro w0 hSw; (try dsimp only at hSw); go_simp; try (with_reducible rfl))
          try simp only [Act.put]
          try simp only [List.setIfInBounds_toArray]
          try simp only [List.set_cons_succ]
          try simp only [List.set_cons_zero]
          refine takeOp (i := 4) (v := ?_) (some 96) rfl rfl (by kernel_rfl) (by kernel_rfl) (by kernel_rfl) (fun _ _ _ h => h) (Or.inl ⟨by rfl, ?_⟩) (by assumption) ?_
          rotate_left 1
          · (intro w0 hSw; (try dsimp only at hSw); go_simp; try (with_reducible rfl))
          try simp only [Act.put]
          try simp only [List.setIfInBounds_toArray]
          try simp only [List.set_cons_succ]
          try simp only [List.set_cons_zero]
          refine takeOp (i := 5) (v := ?_) (some 97) rfl rfl (by kernel_rfl) (by kernel_rfl) (by kernel_rfl) (fun _ _ _ h => h) (Or.inl ⟨by rfl, ?_⟩) (by assumption) ?_
          rotate_left 1
          · (intro w0 hSw; (try dsimp only at hSw); go_simp; try (with_reducible rfl))
          try simp only [Act.put]
          try simp only [List.setIfInBounds_toArray]
          try simp only [List.set_cons_succ]
          try simp only [List.set_cons_zero]
          refine takeOp (i := 6) (v := ?_) (some 98) rfl rfl (by kernel_rfl) (by kernel_rfl) (by kernel_rfl) (fun _ _ _ h => h) (Or.inl ⟨by rfl, ?_⟩) (by assumption) ?_
          rotate_left 1
          · (intro w0 hSw; (try dsimp only at hSw); go_simp; try (with_reducible rfl))
          try simp only [Act.put]
          try simp only [List.setIfInBounds_toArray]
          try simp only [List.set_cons_succ]
          try simp only [List.set_cons_zero]
          refine takeOp (i := 7) (v := ?_) (some 99) rfl rfl (by kernel_rfl) (by kernel_rfl) (by kernel_rfl) (fun _ _ _ h => h) (Or.inl ⟨by rfl, ?_⟩) (by assumption) ?_
          rotate_left 1
          · (intro w0 hSw; (try dsimp only at hSw); go_simp; try (with_reducible rfl))
          try simp only [Act.put]
          try simp only [List.setIfInBounds_toArray]
          try simp only [List.set_cons_succ]
          try simp only [List.set_cons_zero]
          refine takeOp (i := 8) (v := ?_) (some 100) rfl rfl (by kernel_rfl) (by kernel_rfl) (by kernel_rfl) (fun _ _ _ h => h) (Or.inl ⟨by rfl, ?_⟩) (by assumption) ?_
          rotate_left 1
          · (intro w0 hSw; (try dsimp only at hSw); go_simp; try (with_reducible rfl))
          try simp only [Act.put]
          try simp only [List.setIfInBounds_toArray]
          try simp only [List.set_cons_succ]
          try simp only [List.set_cons_zero]
          refine takeOp (i := 9) (v := ?_) (some 101) rfl rfl (by kernel_rfl) (by kernel_rfl) (by kernel_rfl) (fun _ _ _ h => h) (Or.inl ⟨by rfl, ?_⟩) (by assumption) ?_
          rotate_left 1
          · (intro w0 hSw; (try dsimp only at hSw); go_simp; try (with_reducible rfl))
          try simp only [Act.put]
          try simp only [List.setIfInBounds_toArray]
          try simp only [List.set_cons_succ]
          try simp only [List.set_cons_zero]
          refine takeOp (i := 10) (v := ?_) (some 102) rfl rfl (by kernel_rfl) (by kernel_rfl) (by kernel_rfl) (fun _ _ _ h => h) (Or.inl ⟨by rfl, ?_⟩) (by assumption) ?_
          rotate_left 1
          · (intro w0 hSw; (try dsimp only at hSw); go_simp; try (with_reducible rfl))
          try simp only [Act.put]
          try simp only [List.setIfInBounds_toArray]
          try simp only [List.set_cons_succ]
          try simp only [List.set_cons_zero]
          refine takeOp (i := 11) (v := ?_) (some 103) rfl rfl (by kernel_rfl) (by kernel_rfl) (by kernel_rfl) (fun _ _ _ h => h) (Or.inl ⟨by rfl, ?_⟩) (by assumption) ?_
          rotate_left 1
          · (intro w0 hSw; (try dsimp only at hSw); go_simp; try (with_reducible rfl))
          try simp only [Act.put]
          try simp only [List.setIfInBounds_toArray]
          try simp only [List.set_cons_succ]
          try simp only [List.set_cons_zero]
          refine wpAnyH_done (by kernel_rfl) ?_ _
          go_wp2
          go_roundw
          case rel => exact ⟨i + 1, hil, by go_num, by rw [HFN.out]; exact HRI.out.keep (Ext.refl _).drew.below, Below.then HBI.out (Ext.refl _).drew.below hzi⟩
          case measure => simp [intOf]; omega
      · have hrs := HRI.out
        rw [List.take_of_length_le (by omega), HF.out] at hrs
        obtain ⟨FA, FC, rfl, -, -, hfs⟩ := hrs.sl
        have HLW := Lib.hid (l7Rows_any FA FC F wr hfs (by omega) HRSF.out)
        have HSF2 := Lib.hid (HSF.out.upB HBI.out)
        have hFl : F.length ≤ 65536 := by omega
        clear hrs hfs HRI
        go_wp2_with fail
        refine HLW.out.mono ?_
        rintro e w9 ⟨v9, rfl, ho9, hb9⟩
        obtain ⟨B9, D9, rfl, -, -, hs9⟩ := ho9.sl
        have HB9 := Lib.hid (Below.then HBI.out hb9 hzi)
        have HSM := Lib.hid (same_refl A9 B9 C9 D9 F w9 (HSF2.out.upB hb9) hs9 (by omega) HRSF.out)
        clear ho9 hb9 hs9 HLW
        go_wp2_with fail
        refine HSM.out.mono ?_
        rintro e w10 ⟨rfl, hb10⟩
        have HB10 := Lib.hid (Below.then HBC.out (Below.then HB9.out hb10 HB9.out.size) HBC.out.size)
        clear hb10 HSM
        go_wp2_with fail
        refine (l35awake_any w10).mono ?_
        rintro e w11 ⟨rfl, hb11⟩
        have hbw := Below.then HB10.out hb11 HB10.out.size
        clear hb11
        go_wp2
        go_ret
        exact ⟨rfl, hbw⟩

end Go.Proofs.Ytiomelogggilgaa
end

section
/- Opening the arguments of the laws of chapter 34: Rel, lists of bytes, lists of ints. -/
namespace Go.Proofs.Ytiomelogggilgaa
open Go.ChangeShapes Go.WideShapes Go.ChangeAt Go.RowKit Go.Joins Go.Deep

theorem cell_addr' {w : World} {a : Addr} {v : Value} (h : w.cell? a = some v) : a = ⟨a.block, a.off, none⟩ ∧ a.block < w.heap.size := by
  obtain ⟨b, o, s⟩ := a
  unfold World.cell? at h
  simp only at h
  cases hh : w.heap[b]? with
  | none => rw [hh] at h; cases h
  | some ob =>
    have hlt : b < w.heap.size := by
      rcases Nat.lt_or_ge b w.heap.size with h1 | h1
      · exact h1
      · rw [Array.getElem?_eq_none h1] at hh; cases hh
    refine ⟨?_, hlt⟩
    rw [hh] at h
    cases ob with
    | cells c _ _ =>
      cases s with
      | none => rfl
      | some s => simp at h
    | _ => simp at h

theorem add_addr' (b o i : Nat) : (Addr.add ⟨b, o, none⟩ i) = ⟨b, o + i, none⟩ := by
  unfold Addr.add
  split
  · next h => subst h; rfl
  · rfl

theorem sl_open' {k : IntKind} {w : World} {a : Addr} {zs : List Int} {len : Nat} (hl : len ≤ zs.length) (hcell : ∀ i, i < zs.length → w.cell? (a.add i) = some (.int k (zs.getD i 0))) :
    SlI k w.heap.size w (some a) (zs.take len) := by
  intro hne
  have hpos : 0 < (zs.take len).length := by
    rcases Nat.eq_zero_or_pos (zs.take len).length with h | h
    · exact absurd (by rw [List.eq_nil_of_length_eq_zero h]; rfl) hne
    · exact h
  rw [List.length_take] at hpos
  have h0 := hcell 0 (by omega)
  rw [show a.add 0 = a by unfold Addr.add; simp] at h0
  obtain ⟨ha, hb⟩ := cell_addr' h0
  refine ⟨a.block, a.off, by rw [← ha], hb, fun i u hu => ?_⟩
  rw [List.getElem?_map] at hu
  cases hz : (zs.take len)[i]? with
  | none => rw [hz] at hu; simp at hu
  | some z =>
    rw [hz] at hu
    simp at hu
    subst hu
    obtain ⟨hi, hzi⟩ := List.getElem?_eq_some_iff.1 hz
    rw [List.length_take] at hi
    have h1 := hcell i (by omega)
    rw [ha, add_addr'] at h1
    rw [h1]
    simp at hzi
    simp [show i < zs.length by omega, hzi]

section
variable {H : Type} {enc : TypeId × Value → H} {W : World} {n : Nat} {x : DataW H × List MemPlace}

/-- A slice of ints that reads. -/
theorem open_cols {cs : List Value} (h : DataW.trod enc Try.prog W 0 (fun _ => true) true n 25 cs = some x) :
    ∃ A c zs, cs = [.slice A zs.length c] ∧ SlI .i64 W.heap.size W A zs ∧ zs.length ≤ 9223372036854775807 ∧ zs.length ≤ c ∧ c ≤ 9223372036854775807 := by
  rcases open_ints Try.underlying25 Try.underlying3 (by kernel_rfl) h with ⟨hcs, _⟩ | ⟨a, len, cap, zs, hcs, _, hl, hm, hz, _, hcell, hwz⟩
  · exact ⟨none, 0, [], hcs, Sl.nil, by simp, by simp, by simp⟩
  · simp at hz
    have hlz : len ≤ zs.length := by omega
    have hm' : cap ≤ 9223372036854775807 := hm
    refine ⟨some a, cap, zs.take len, ?_, sl_open' hlz hcell, ?_, ?_, hm'⟩
    · rw [List.length_take, Nat.min_eq_left hlz]; exact hcs
    · rw [List.length_take]; omega
    · rw [List.length_take]; omega

theorem cells_Tu8 : Try.prog.cellsOf 5 = 1 := by kernel_rfl

end

end Go.Proofs.Ytiomelogggilgaa
end

section
/- Opening the arguments of the laws of chapter 35: lists of atoms. -/
namespace Go.Proofs.Ytiomelogggilgaa
open Go.ChangeShapes Go.WideShapes Go.ChangeAt Go.RowKit Go.Joins Go.Deep

section
variable {H : Type} {enc : TypeId × Value → H} {W : World} {n : Nat} {x : DataW H × List MemPlace}

theorem cells_TU8x4 : Try.prog.cellsOf 74 = 4 := by kernel_rfl
theorem cells_TLAtom : Try.prog.cellsOf 72 = 3 := by kernel_rfl

set_option maxRecDepth 100000 in
/-- Four bytes that read. -/
theorem open_four {cs : List Value} (h : DataW.trod enc Try.prog W 0 (fun _ => true) true n 74 cs = some x) :
    ∃ t : List Nat, (∀ k, k < 4 → cs[k]? = some (.int .u8 (t.getD k 0 : Nat))) ∧ ∀ k, t.getD k 0 < 256 := by
  obtain ⟨ys, m, _, _, hlen, hyl, hf⟩ := DataW.trod_array Try.underlying74 h
  rw [cells_TU8x4] at hlen
  rw [cells_Tu8] at hf
  match cs, hlen with
  | [c0, c1, c2, c3], _ =>
    match ys, hyl with
    | [y0, y1, y2, y3], _ =>
      have h0 := hf 0 (by decide)
      have h1 := hf 1 (by decide)
      have h2 := hf 2 (by decide)
      have h3 := hf 3 (by decide)
      obtain ⟨a0, e0, _, w0⟩ := DataW.trod_int (k := .u8) Try.underlying5 (h0.trans (b := some y0) rfl)
      obtain ⟨a1, e1, _, w1⟩ := DataW.trod_int (k := .u8) Try.underlying5 (h1.trans (b := some y1) rfl)
      obtain ⟨a2, e2, _, w2⟩ := DataW.trod_int (k := .u8) Try.underlying5 (h2.trans (b := some y2) rfl)
      obtain ⟨a3, e3, _, w3⟩ := DataW.trod_int (k := .u8) Try.underlying5 (h3.trans (b := some y3) rfl)
      have b0 := bounds_u8 w0
      have b1 := bounds_u8 w1
      have b2 := bounds_u8 w2
      have b3 := bounds_u8 w3
      obtain ⟨a0, rfl⟩ := Int.eq_ofNat_of_zero_le b0.1
      obtain ⟨a1, rfl⟩ := Int.eq_ofNat_of_zero_le b1.1
      obtain ⟨a2, rfl⟩ := Int.eq_ofNat_of_zero_le b2.1
      obtain ⟨a3, rfl⟩ := Int.eq_ofNat_of_zero_le b3.1
      simp at e0 e1 e2 e3
      subst e0 e1 e2 e3
      refine ⟨[a0, a1, a2, a3], fun k hk => ?_, fun k => ?_⟩
      · match k, hk with
        | 0, _ => rfl
        | 1, _ => rfl
        | 2, _ => rfl
        | 3, _ => rfl
      · match k with
        | 0 => show a0 < 256; omega
        | 1 => show a1 < 256; omega
        | 2 => show a2 < 256; omega
        | 3 => show a3 < 256; omega
        | k + 4 => show (0 : Nat) < 256; omega

/-- A list of fours that reads. -/
theorem open_fours {cs : List Value} (h : DataW.trod enc Try.prog W 0 (fun _ => true) true n 70 cs = some x) :
    ∃ A C X, cs = [.slice A X.length C] ∧ SlA 4 W.heap.size W A X ∧ X.length ≤ 9223372036854775807 ∧ Bytes X := by
  rcases open_slice Try.underlying70 h with ⟨hcs, _⟩ | ⟨a, len, cap, m, n', D, Pl, hcs, _, hl, hm, hmm, _, hel⟩
  · exact ⟨none, 0, [], hcs, fun h => absurd rfl h, by simp, fun t ht => by simp at ht⟩
  · rw [cells_TU8x4] at hel
    simp only [if_true] at hmm
    subst hmm
    have hm' : m ≤ 9223372036854775807 := hm
    have hch : ∀ i, i < len → ∃ t : List Nat, (∀ j, j < 4 → W.cell? (a.add (i * 4 + j)) = some (.int .u8 (t.getD j 0 : Nat))) ∧ ∀ k, t.getD k 0 < 256 := by
      intro i hi
      obtain ⟨cs', h1, h2⟩ := hel i (by omega)
      obtain ⟨t, hv, hb⟩ := open_four h2
      obtain ⟨_, _, h3⟩ := World.cells?_some h1
      refine ⟨t, fun j hj => ?_, hb⟩
      rw [← Go.Deep.add_add, h3 j hj]
      exact hv j hj
    obtain ⟨f, hf⟩ := choose_lt hch
    refine ⟨some a, m, (List.range len).map f, by simpa using hcs, fun hne => ?_, by simp only [List.length_map, List.length_range]; omega, ?_⟩
    · have hpos : 0 < len := by
        rcases Nat.eq_zero_or_pos len with h0 | h0
        · subst h0; exact absurd rfl hne
        · exact h0
      have h0 := (hf 0 hpos).1 0 (by omega)
      rw [show a.add (0 * 4 + 0) = a by unfold Addr.add; simp] at h0
      obtain ⟨ha, hb⟩ := cell_addr' h0
      refine ⟨a.block, a.off, by rw [← ha], hb, fun i hi k hk => ?_⟩
      have hi' : i < len := by simpa using hi
      have h1 := (hf i hi').1 k hk
      rw [ha, add_addr', ← Nat.add_assoc] at h1
      rw [h1]
      simp
    · intro t ht
      rw [List.mem_map] at ht
      obtain ⟨i, hi, rfl⟩ := ht
      exact (hf i (by simpa using hi)).2

set_option maxRecDepth 100000 in
/-- One atom that reads. -/
theorem open_latom {cs : List Value} (h : DataW.trod enc Try.prog W 0 (fun _ => true) true n 72 cs = some x) :
    ∃ (a : LA) (RA : Option Addr) (RC : Nat), cs = [.int .u8 (a.v : Nat), .slice RA a.R.length RC, .int .u8 (a.b : Nat)] ∧ SlA 4 W.heap.size W RA a.R ∧ a.v < 256 ∧ a.b < 256 ∧ Bytes a.R := by
  obtain ⟨ys, n', _, _, hlen, hyl, hf⟩ := DataW.trod_struct Try.underlying72 h
  rw [cells_TLAtom] at hlen
  match cs, hlen with
  | [c0, c1, c2], _ =>
    match ys, hyl with
    | [y0, y1, y2], _ =>
      have h0 := hf 0 _ rfl
      have h1 := hf 1 _ rfl
      have h2 := hf 2 _ rfl
      obtain ⟨a0, e0, _, w0⟩ := DataW.trod_int (k := .u8) (by kernel_rfl) h0
      obtain ⟨RA, RC, X, e1, hs, _, hB⟩ := open_fours h1
      obtain ⟨a2, e2, _, w2⟩ := DataW.trod_int (k := .u8) (by kernel_rfl) h2
      have b0 := bounds_u8 w0
      have b2 := bounds_u8 w2
      obtain ⟨a0, rfl⟩ := Int.eq_ofNat_of_zero_le b0.1
      obtain ⟨a2, rfl⟩ := Int.eq_ofNat_of_zero_le b2.1
      have q0 : List.take (Try.prog.cellsOf 5) (List.drop 0 [c0, c1, c2]) = [.int .u8 a0] := e0
      have q1 : List.take (Try.prog.cellsOf 70) (List.drop 1 [c0, c1, c2]) = [.slice RA X.length RC] := e1
      have q2 : List.take (Try.prog.cellsOf 5) (List.drop 2 [c0, c1, c2]) = [.int .u8 a2] := e2
      rw [cells_Tu8] at q0 q2
      rw [show Try.prog.cellsOf 70 = 1 by kernel_rfl] at q1
      simp at q0 q1 q2
      subst q0 q1 q2
      exact ⟨⟨a0, X, a2⟩, RA, RC, rfl, hs, by show a0 < 256; omega, by show a2 < 256; omega, hB⟩

/-- A list of atoms that reads. -/
theorem open_latoms {cs : List Value} (h : DataW.trod enc Try.prog W 0 (fun _ => true) true n 22 cs = some x) :
    ∃ A C l, cs = [.slice A l.length C] ∧ AtsL W.heap.size W A l ∧ LBytes l ∧ l.length ≤ C ∧ C ≤ 9223372036854775807 ∧ (C = 0 ∨ ∃ es sp, x.1 = .slice es sp ∧ es.length + sp.length = C) := by
  rcases open_slice Try.underlying22 h with ⟨hcs, _⟩ | ⟨a, len, cap, m, n', D, Pl, hcs, _, hl, hm, hmm, hx, hel⟩
  · exact ⟨none, 0, [], hcs, fun h => absurd rfl h, fun a ha => by simp at ha, Nat.le_refl _, by simp, .inl rfl⟩
  · rw [cells_TLAtom] at hel
    simp only [if_true] at hmm
    subst hmm
    have hm' : m ≤ 9223372036854775807 := hm
    have hch : ∀ i, i < len → ∃ t : LA, ∃ RA RC, W.cell? (a.add (i * 3)) = some (.int .u8 (t.v : Nat)) ∧ W.cell? (a.add (i * 3 + 1)) = some (.slice RA t.R.length RC) ∧ W.cell? (a.add (i * 3 + 2)) = some (.int .u8 (t.b : Nat)) ∧ SlA 4 W.heap.size W RA t.R ∧ t.v < 256 ∧ t.b < 256 ∧ Bytes t.R := by
      intro i hi
      obtain ⟨cs', h1, h2⟩ := hel i (by omega)
      obtain ⟨t, RA, RC, rfl, hs, hv, hb, hB⟩ := open_latom h2
      obtain ⟨_, _, h3⟩ := World.cells?_some h1
      refine ⟨t, RA, RC, ?_, ?_, ?_, hs, hv, hb, hB⟩
      · have := h3 0 (by omega)
        rw [Go.Deep.add_add] at this
        exact this
      · have := h3 1 (by omega)
        rw [Go.Deep.add_add] at this
        exact this
      · have := h3 2 (by omega)
        rw [Go.Deep.add_add] at this
        exact this
    haveI : Inhabited LA := ⟨⟨0, [], 0⟩⟩
    obtain ⟨f, hf⟩ := choose_lt hch
    refine ⟨some a, m, (List.range len).map f, by simpa using hcs, fun hne => ?_, ?_, by simpa using hl, hm', .inr ⟨_, _, by rw [hx], by simp; omega⟩⟩
    · have hpos : 0 < len := by
        rcases Nat.eq_zero_or_pos len with h0 | h0
        · subst h0; exact absurd rfl hne
        · exact h0
      obtain ⟨_, _, h0, _⟩ := hf 0 hpos
      rw [show a.add (0 * 3) = a by unfold Addr.add; simp] at h0
      obtain ⟨ha, hb⟩ := cell_addr' h0
      refine ⟨a.block, a.off, by rw [← ha], hb, fun i hi => ?_⟩
      have hi' : i < len := by simpa using hi
      obtain ⟨RA, RC, g0, g1, g2, g3, _⟩ := hf i hi'
      rw [ha, add_addr'] at g0 g1 g2
      refine ⟨RA, RC, ?_, ?_, ?_, ?_⟩
      · simpa using g0
      · simpa [Nat.add_assoc] using g1
      · simpa [Nat.add_assoc] using g2
      · simpa using g3
    · intro t ht
      rw [List.mem_map] at ht
      obtain ⟨i, hi, rfl⟩ := ht
      obtain ⟨_, _, _, _, _, _, g1, g2, g3⟩ := hf i (by simpa using hi)
      exact ⟨g1, g2, g3⟩
end

end Go.Proofs.Ytiomelogggilgaa
end

section
/- Opening the arguments of the laws of chapter 35: two bytes; one atom. -/
namespace Go.Proofs.Ytiomelogggilgaa
open Go.ChangeShapes Go.WideShapes Go.ChangeAt Go.RowKit Go.Joins Go.Deep

section
variable {H : Type} {enc : TypeId × Value → H} {W : World}
theorem duoCells : Try.prog.cellsOf 46 = 2 := by kernel_rfl
theorem two_of {cs : Array Value} (h : cs.size = 2) : ∃ a b, cs = #[a, b] := by
  obtain ⟨l⟩ := cs
  match l, h with
  | [a, b], _ => exact ⟨a, b, rfl⟩
set_option maxRecDepth 100000 in
theorem open_duo {r : Reach} {b0 : Nat} {v : Value} {d : DataW H} {p : List MemPlace} (hv : Value.okWide Try.prog W r b0 46 v) (h : DataW.Trod enc Try.prog W 0 (fun _ => true) true 46 v d p) :
    ∃ x y : Nat, v = .agg #[.int .u8 (x : Int), .int .u8 (y : Int)] ∧ x < 256 ∧ y < 256 := by
  simp only [Value.okWide, Try.underlying46] at hv
  obtain ⟨cs, rfl, hsz, _⟩ := hv
  obtain ⟨c0, c1, rfl⟩ := two_of (hsz.trans duoCells)
  obtain ⟨fuel, hf⟩ := h
  obtain ⟨xs, m, _, _, _, hlen, hg⟩ := DataW.trod_array Try.underlying46 hf
  match xs, hlen with
  | [y0, y1], _ =>
    have h0 := hg 0 (by omega)
    have h1 := hg 1 (by omega)
    simp only [cells_Tu8, Value.cells] at h0 h1
    obtain ⟨n0, e0, _, w0⟩ := DataW.trod_int (k := .u8) Try.underlying5 h0
    obtain ⟨n1, e1, _, w1⟩ := DataW.trod_int (k := .u8) Try.underlying5 h1
    simp at e0 e1
    have b0 := bounds_u8 w0
    have b1 := bounds_u8 w1
    obtain ⟨k0, rfl⟩ := Int.eq_ofNat_of_zero_le b0.1
    obtain ⟨k1, rfl⟩ := Int.eq_ofNat_of_zero_le b1.1
    exact ⟨k0, k1, by rw [e0, e1], by omega, by omega⟩
end

end Go.Proofs.Ytiomelogggilgaa
end

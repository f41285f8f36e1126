/- Parts of the proof, merged: Y27, Y33, G35, G39, G32a. -/
import Derived.Test.YthgaflmldbgbnaaGreatDoorQ11
import Derived.Test.YthgaflmldbgbnaaGreatDoorQ6
import Derived.Test.YthgaflmldbgbnaaGreatDoorQ5
import Derived.Test.YthgaflmldbgbnaaGreatDoorQ9
import Derived.Test.YthgaflmldbgbnaaGreatDoorQ1
import Derived.Test.YthgaflmldbgbnaaGreatDoorQ3
import Derived.Test.YthgaflmldbgbnaaGreatDoorQ8
import Derived.ChangeKeysEq

set_option maxRecDepth 100000
namespace Go.Proofs.YthgaflmldbgbnaaGreatDoor
section
open Go.RowKit Go.Sort

def MadeP (w : World) (l : List LA) (e : Ending) (w' : World) : Prop :=
  ((∀ a ∈ l, a.Ok) → ∃ A1 C1 A2 C2 A3 C3, e = .returned (.tuple #[.slice A1 l.length C1, .slice A2 l.length C2, .slice A3 l.length C3, .bool (decide (l.length ≤ 6))]) ∧ l.length ≤ C1 ∧ C1 ≤ 9223372036854775807 ∧ l.length ≤ C2 ∧ C2 ≤ 9223372036854775807 ∧ l.length ≤ C3 ∧ C3 ≤ 9223372036854775807 ∧ AtsM w'.heap.size w' A1 (l.map LA.ra) ∧ AtsR w'.heap.size w' A2 (l.map LA.ra) ∧ SlI .i64 w'.heap.size w' A3 (l.map fun a => (a.d : Int))) ∧
  ((¬ ∀ a ∈ l, a.Ok) → e = .returned (.tuple #[.slice none 0 0, .slice none 0 0, .slice none 0 0, .bool false])) ∧ Below w.heap.size w w'
def MadeS (w : World) (l : List LA) (vo vm va c : Value) (wr : World) : Prop :=
  ∃ i : Nat, i ≤ l.length ∧ c = .int .i64 i ∧ (∀ a ∈ l.take i, a.Ok) ∧ (∃ Z : List (RA × HM), Z.map Prod.fst = (l.take i).map LA.ra ∧ MadeI w.heap.size wr Z vo vm va) ∧ Below w.heap.size w wr
theorem bit_eq (v k : Nat) : ((v : Int) / 2 ^ k).tmod 2 = ((v / 2 ^ k % 2 : Nat) : Int) := by
  have h : (v : Int) / 2 ^ k = ((v / 2 ^ k : Nat) : Int) := by
    rw [Int.natCast_ediv, Int.natCast_pow]
    rfl
  rw [h]
  rfl
theorem valI_valid (n : Nat) : RL.validV (valI n) = true := by
  unfold valI RL.validV
  have : (ByteArray.mk #[]).size = 0 := rfl
  simp [this]
theorem rowI_wrong (n : Nat) (t : List Nat) : wrongF n (rowI n t) = 0 := by
  unfold wrongF
  rw [rowI_len, if_neg (by simp), if_pos]
  unfold rowI
  rw [List.all_eq_true]
  intro v hv
  obtain ⟨k, _, rfl⟩ := List.mem_map.1 hv
  exact valI_valid _
theorem rowsI_err (n : Nat) (X : List (List Nat)) : errF n (X.map (rowI n)) = 0 := errF_zero.2 fun x hx => by
  obtain ⟨t, _, rfl⟩ := List.mem_map.1 hx
  exact rowI_wrong n t
theorem rowsI_ok {n : Nat} (hn : n ≤ 1000000) (X : List (List Nat)) : RsOk (X.map (rowI n)) := fun x hx => by
  obtain ⟨t, _, rfl⟩ := List.mem_map.1 hx
  refine ⟨by rw [rowI_len]; exact hn, fun v hv => ?_⟩
  unfold rowI at hv
  obtain ⟨k, _, rfl⟩ := List.mem_map.1 hv
  exact Nat.zero_le _
theorem ints_len (l : List Nat) : (ints l).length = l.length := by unfold ints; rw [List.length_map]
theorem own_one (w : World) (base : Nat) (T : TypeId) (u : Value) (hb : base ≤ w.heap.size) : (w.alloc (.cells #[u] T)).ownsRow base T 1 (.slice (some ⟨w.heap.size, 0, none⟩) 1 1) 1 [u] :=
  ⟨rfl, .inr ⟨w.heap.size, 1, #[u], rfl, hb, Row.new w T [u], Nat.le_refl _, by simp [maxLen], rfl, rfl⟩⟩
theorem appIs {w : World} {ops : Array Oper} {rest : List Oper} {o : Oper} {a : Act} {Q : Exit → Act → World → Prop} (hgd : o.guard = none) (s x : Operand)
    (ho : o.op = .call { callee := .builtin .append, args := #[s, x], argTypes := #[27, 27] })
    (base : Nat) (v : Value) (n : Nat) (xs : List Value) (hs0 : a.eval s = v) (hown : w.ownsRow base 3 1 v n xs)
    (A : Option Addr) (m C : Nat) (z : List Int) (hm : z.length = m) (hx : a.eval x = .slice A m C) (hz : SlI .i64 w.heap.size w A z)
    (hn : n + m ≤ 1000000) (hbase : base ≤ w.heap.size)
    (h : ∀ v' w', w'.ownsRow base 3 1 v' (n + m) (xs ++ z.map (Value.int .i64)) → w.grownBy w' v.ownBlock → wpList Tryz.prog ops Q rest (a.put o.dst v') w') : wpList Tryz.prog ops Q (o :: rest) a w := by
  subst hm
  obtain ⟨i0, hi0, hz0, hz1, hz2⟩ := info_parts intInfo
  have hcell : ∀ ad, A = some ad → ∀ j u, (z.map (Value.int .i64))[j]? = some u → w.cell? (ad.add j) = some u := fun ad e j u hu => by
    obtain ⟨b, o, e', hb, hc⟩ := hz (by intro h0; rw [h0] at hu; simp at hu)
    rw [e] at e'
    injection e' with e'
    subst e'
    rw [Addr.add_lit]
    exact hc j u hu
  refine wpList_plain hgd fun K hK => ?_
  rcases A with _ | ad
  · have hy : z = [] := by
      refine Classical.byContradiction fun hne => ?_
      obtain ⟨b, o, e', hb, hc⟩ := hz (by simpa using hne)
      cases e'
    subst hy
    have hrun := run_append_none (P := Tryz.prog) w base 27 o.type 3 i0 1 Tryz.underlying27 hi0 v n xs hown C
    unfold Oper.wp execOp
    simp only [List.length_nil] at hx
    simp only [ho, resolve, invoke, builtin, Sem.run_bind, Sem.run_pure, Result.andThen_ok, List.map_toArray, List.map_cons, List.map_nil, hs0, hx, hrun]
    exact hK _ _ (h v w (by rw [List.map_nil, List.append_nil]; exact hown) ⟨rfl, rfl, rfl, Nat.le_refl _, fun _ _ _ => rfl⟩)
  · obtain ⟨v', w', hrun, k2, k3, _, k5⟩ := run_append_own_at (P := Tryz.prog) w base 27 o.type 3 i0 _ 1 8 Tryz.underlying27 hi0 hz0 hz1 hz2 rfl (by decide) v n xs hown ad z.length C (z.map (Value.int .i64)) (by simp) (hcell ad rfl) (by simp [Value.oneCell']) (by simp only [maxLen]; omega) (by omega) hbase
    unfold Oper.wp execOp
    simp only [ho, resolve, invoke, builtin, Sem.run_bind, Sem.run_pure, Result.andThen_ok, List.map_toArray, List.map_cons, List.map_nil, hs0, hx, hrun]
    exact hK _ _ (h v' w' k2 k3)
theorem grown_alloc {w w' : World} {o : Obj} {row : Option Nat} (h : (w.alloc o).grownBy w' row) : w.grownBy w' row := grown_trans (((Ext.refl w).alloc o).grown row) h
theorem MadeP.bad {w w' : World} {l : List LA} {a : LA} (ha : a ∈ l) (hn : ¬ a.Ok) (hb : Below w.heap.size w w') : MadeP w l (.returned (.tuple #[.slice none 0 0, .slice none 0 0, .slice none 0 0, .bool false])) w' :=
  ⟨fun h => absurd (h a ha) hn, fun _ => rfl, hb⟩

set_option maxHeartbeats 8000000 in
theorem l35Made_any (A : Option Addr) (C : Nat) (l : List LA) (w : World) (hA : AtsL w.heap.size w A l) (hB : LBytes l) (hl : l.length ≤ 3518437208780) :
    Calls Tryz.prog 7 #[.slice A l.length C] w (MadeP w l) := by
  have HA := Lib.hid hA
  have HBY := Lib.hid hB
  have HBAD := Lib.hid (fun (a : LA) (ha : a ∈ l) (hn : ¬ a.Ok) (w' : World) (hb : Below w.heap.size w w') => MadeP.bad ha hn hb)
  clear hA hB
  go_enter Tryz.func7, Tryz.ntmps7
  go_wp2
  go_loopw [6, 7, 8, 23] (MadeS w l) (fun _ _ _ c _ => l.length - (intOf c).toNat)
  case atStart => exact ⟨0, Nat.zero_le _, rfl, fun a ha => by simp at ha, ⟨[], rfl, MadeI.nil _ _⟩, Below.refl _ _⟩
  case round =>
    obtain ⟨i, hi, rfl, hall, ⟨Z, hZ, hM⟩, hb⟩ := hrel
    have HALL := Lib.hid hall
    have HZ := Lib.hid hZ
    have HM := Lib.hid hM
    have HB := Lib.hid hb
    have hzb := hb.size
    have HZL : Hid (Z.length = i) := by
      have := congrArg List.length hZ
      rw [List.length_map, List.length_map, List.length_take, Nat.min_eq_left hi] at this
      exact this
    clear hall hZ hM hb
    by_cases h1 : i < l.length
    rotate_left
    · obtain rfl : i = l.length := by omega
      obtain ⟨A1, C1, A2, C2, A3, C3, e1, e2, e3, c1, d1, c2, d2, c3, d3, ha, hr, hz⟩ := HM.out.fin
      have hT : l.take l.length = l := List.take_length
      have HZ2 := HZ.out
      have HALL2 := HALL.out
      rw [hT] at HZ2 HALL2
      rw [HZL.out] at e1 e2 e3 c1 c2 c3
      rw [HZ2] at ha hr
      have hz2 : SlI .i64 wr.heap.size wr A3 (l.map fun a => (a.d : Int)) := by
        have e : (Z.map fun z => z.1.ar) = l.map fun a => (a.d : Int) := by
          have := congrArg (List.map RA.ar) HZ2
          rw [List.map_map, List.map_map] at this
          exact this
        rw [← e]
        exact hz
      subst e1 e2 e3
      obtain ⟨b6, hb6, hb7⟩ : ∃ b : Bool, decide ((l.length : Int) ≤ 6) = b ∧ b = decide (l.length ≤ 6) := ⟨_, decide_eq_decide.2 (by omega), rfl⟩
      have HP : Hid (MadeP w l (.returned (.tuple #[.slice A1 l.length C1, .slice A2 l.length C2, .slice A3 l.length C3, .bool b6])) wr) := ⟨fun _ => ⟨A1, C1, A2, C2, A3, C3, by rw [hb7], c1, d1, c2, d2, c3, d3, ha, hr, hz2⟩, fun h => absurd HALL2 h, HB.out⟩
      clear HA HBY HBAD HALL HZ HM HB HZL HZ2 HALL2 hz2 ha hr hz hb7 hT c1 d1 c2 d2 c3 d3
      go_wp2
      exact bodyPost_ret (v := .tuple #[.slice A1 l.length C1, .slice A2 l.length C2, .slice A3 l.length C3, .bool b6]) (by simp [results, Tryz.results7, go_sem]) rfl HP.out
    obtain ⟨ab, ao, RA, RC, rfl, hab, c0, c1, c2, q⟩ := atsL_at HA.out h1
    have c0 := (HB.out.cell (p := ⟨ab, ao + i * 3, none⟩) hab).trans c0
    have c1 := (HB.out.cell (p := ⟨ab, ao + i * 3 + 1, none⟩) hab).trans c1
    have c2 := (HB.out.cell (p := ⟨ab, ao + i * 3 + 2, none⟩) hab).trans c2
    have hab2 := Nat.lt_of_lt_of_le hab hzb
    have HQ := Lib.hid q
    have HBY1 := Lib.hid (HBY.out _ (List.getElem_mem h1))
    have HMEM : Hid (l[i] ∈ l) := List.getElem_mem h1
    have HTK : Hid (l.take (i + 1) = l.take i ++ [l[i]]) := List.take_succ_eq_append_getElem h1
    have g1 : (0 : Int) ≤ (i : Int) := by omega
    have g2 : (i : Int) < (l.length : Int) := by omega
    have hw1 : IntKind.i64.wrap ((i : Int) + 1) = ((i + 1 : Nat) : Int) := by rw [IntWalk.i64_in _ (by omega)]; omega
    generalize l[i] = a at *
    clear q
    obtain ⟨wo, hwo⟩ : ∃ wo, wo = wr := ⟨_, rfl⟩
    subst hwo
    obtain ⟨W1, hW1⟩ : ∃ W1, W1 = wo.alloc (.cells #[.int .u8 (a.v : Nat), .slice RA a.R.length RC, .int .u8 (a.b : Nat)] 24) := ⟨_, rfl⟩
    have hr1 : Row W1 wo.heap.size 24 [.int .u8 (a.v : Nat), .slice RA a.R.length RC, .int .u8 (a.b : Nat)] := by rw [hW1]; exact Row.new wo 24 _
    have hx1 : Ext wo W1 := by rw [hW1]; exact (Ext.refl wo).alloc _
    have HR1 := Lib.hid hr1
    have HX1 := Lib.hid hx1
    clear hr1 hx1
    go_wp2_with fail
    rw [← hW1]
    clear hW1 c0 c1 c2
    go_loopw [11, 27] (fun v c wx => ∃ k : Nat, k ≤ 8 ∧ c = .int .i64 k ∧ wx.ownsRow W1.heap.size 3 1 v (varsK a.v k).length ((ints (varsK a.v k)).map (Value.int .i64)) ∧ Below W1.heap.size W1 wx) (fun _ c _ => 8 - (intOf c).toNat)
    case atStart => exact ⟨0, Nat.zero_le _, rfl, own_nil _ _ _ _, Below.refl _ _⟩
    case round =>
      obtain ⟨k, hk, rfl, hown, hb⟩ := hrel
      have HO := Lib.hid hown
      have HBK := Lib.hid hb
      have hzk := hb.size
      have hr2 := HR1.out.up hb
      have HR2 := Lib.hid hr2
      have b0 : wr.cell? ⟨wo.heap.size, 0, none⟩ = some (.int .u8 (a.v : Nat)) := hr2.cell 0
      have b1 : wr.cell? ⟨wo.heap.size, 1, none⟩ = some (.slice RA a.R.length RC) := hr2.cell 1
      have b2 : wr.cell? ⟨wo.heap.size, 2, none⟩ = some (.int .u8 (a.b : Nat)) := hr2.cell 2
      have hbz := hr2.lt
      clear hown hb hr2
      by_cases h2 : k < 8
      · have hwk : IntKind.i64.wrap ((k : Int) + 1) = ((k + 1 : Nat) : Int) := by rw [IntWalk.i64_in _ (by omega)]; omega
        have HVS := Lib.hid (varsK_succ a.v k)
        by_cases hbt : a.v / 2 ^ k % 2 = 1
        · have hbit : (((a.v : Int) / 2 ^ k).tmod 2 == 1) = true := by rw [bit_eq, hbt]; rfl
          have HV2 := Lib.hid (HVS.out.trans (if_pos hbt))
          have hkl := varsK_len a.v k
          obtain ⟨VA, VC, rfl, -, -, -⟩ := own_slice HO.out (by decide)
          clear hbt HVS
          go_wp2_with
            (at_builtin; refine app1Int rfl (.tmp 36) (.tmp 38) rfl W1.heap.size (.slice VA (varsK a.v k).length VC) (varsK a.v k).length ((ints (varsK a.v k)).map (Value.int .i64)) rfl (HO.out.alloc _) wr.heap.size [.int .i64 (k : Nat)] rfl (Row.new wr 3 [.int .i64 (k : Nat)]) rfl (by simp [Value.oneCell']) (by omega) (by simp; omega) ?_
             intro v' w6 hown6 hg6 hat6
             obtain ⟨A6, C6, rfl, -, -, -⟩ := own_slice hown6 (by decide)
             have HO6 : Hid (w6.ownsRow W1.heap.size 3 1 (.slice A6 ((varsK a.v k).length + 1) C6) (varsK a.v (k + 1)).length ((ints (varsK a.v (k + 1))).map (Value.int .i64))) := by
               rw [HV2.out, List.length_append]
               unfold ints at hown6 ⊢
               rw [List.map_append, List.map_append]
               exact hown6
             have HB6 : Hid (Below W1.heap.size W1 w6) := HBK.out.trans (app_kept (fun b hb => own_base HO.out hb) hzk hg6)
             clear hown6 hg6 hat6)
          go_roundw
          case rel => exact ⟨k + 1, h2, by go_num, HO6.out, HB6.out⟩
          case measure => simp [intOf]; omega
        · have hbit : (((a.v : Int) / 2 ^ k).tmod 2 == 1) = false := by
            rw [bit_eq]
            have : ((a.v / 2 ^ k % 2 : Nat) : Int) ≠ 1 := by omega
            simpa using this
          have HV2 := Lib.hid (HVS.out.trans (if_neg hbt))
          clear hbt HVS
          go_wp2
          go_roundw
          case rel => exact ⟨k + 1, h2, by go_num, by rw [HV2.out]; exact HO.out, HBK.out⟩
          case measure => simp [intOf]; omega
      · have HO2 : Hid (wr.ownsRow W1.heap.size 3 1 u11 a.d ((ints a.ks).map (Value.int .i64))) := by
          have h := HO.out
          rw [show k = 8 by omega] at h
          exact h
        obtain ⟨k8, hk8⟩ : ∃ k8, k8 = k := ⟨_, rfl⟩
        subst hk8
        obtain ⟨VA, VC, rfl, -, -, -⟩ := own_slice HO2.out (by decide)
        have hd8 := a.d_le
        have HBW := Lib.hid (Below.then (Below.then HB.out HX1.out.below hzb) HBK.out (by have := HX1.out.size; omega))
        have HBO := Lib.hid (Below.then HX1.out.below HBK.out HX1.out.size)
        clear HO
        by_cases hd4 : 4 < a.d
        · have hdd : decide ((4 : Int) < (a.d : Int)) = true := decide_eq_true (by omega)
          have HNO : Hid (¬ a.Ok) := fun h => by have := h.1; omega
          go_wp2
          exact bodyPost_ret (v := .tuple #[.slice none 0 0, .slice none 0 0, .slice none 0 0, .bool false]) (by simp [results, Tryz.results7, go_sem]) rfl (HBAD.out a HMEM.out HNO.out _ HBW.out)
        have hdd : decide ((4 : Int) < (a.d : Int)) = false := decide_eq_false (by omega)
        by_cases hR : 12 < a.R.length
        · have hdd2 : decide ((12 : Int) < (a.R.length : Int)) = true := decide_eq_true (by omega)
          have HNO : Hid (¬ a.Ok) := fun h => by have := h.2; omega
          go_wp2
          exact bodyPost_ret (v := .tuple #[.slice none 0 0, .slice none 0 0, .slice none 0 0, .bool false]) (by simp [results, Tryz.results7, go_sem]) rfl (HBAD.out a HMEM.out HNO.out _ HBW.out)
        have hdd2 : decide ((12 : Int) < (a.R.length : Int)) = false := decide_eq_false (by omega)
        have HOK : Hid a.Ok := ⟨by omega, by omega⟩
        obtain ⟨wv, hwv⟩ : ∃ wv, wv = wr := ⟨_, rfl⟩
        subst hwv
        have hzv := HBW.out.size
        go_wp2_with fail
        go_loopw [13, 53] (fun v c wx => ∃ j : Nat, j ≤ a.R.length ∧ c = .int .i64 j ∧ OwnRs wx wv.heap.size 69 v ((a.R.take j).map (rowI a.d)) ∧ Below wv.heap.size wv wx) (fun _ c _ => a.R.length - (intOf c).toNat)
        case atStart => exact ⟨0, Nat.zero_le _, rfl, OwnRs.nil _ _ _, Below.refl _ _⟩
        case round =>
          obtain ⟨j, hj, rfl, hrs, hbj⟩ := hrel
          have HRS := Lib.hid hrs
          have HBJ := Lib.hid hbj
          have hzj := hbj.size
          clear hrs hbj b0 b1 b2
          by_cases h3 : j < a.R.length
          · obtain ⟨qb, qo, rfl, hqb, hqc⟩ := HQ.out (by intro h0; rw [h0] at h3; simp at h3)
            have HBWJ := Lib.hid (Below.then HBW.out HBJ.out hzv)
            have d0 := (HBWJ.out.cell (p := ⟨qb, qo + j * 4 + 0, none⟩) hqb).trans (hqc j h3 0 (by omega))
            have d1 := (HBWJ.out.cell (p := ⟨qb, qo + j * 4 + 1, none⟩) hqb).trans (hqc j h3 1 (by omega))
            have d2 := (HBWJ.out.cell (p := ⟨qb, qo + j * 4 + 2, none⟩) hqb).trans (hqc j h3 2 (by omega))
            have d3 := (HBWJ.out.cell (p := ⟨qb, qo + j * 4 + 3, none⟩) hqb).trans (hqc j h3 3 (by omega))
            rw [Nat.add_zero] at d0
            have hqb2 := Nat.lt_of_lt_of_le hqb HBWJ.out.size
            have g3 : (0 : Int) ≤ (j : Int) := by omega
            have g4 : (j : Int) < (a.R.length : Int) := by omega
            have hwj : IntKind.i64.wrap ((j : Int) + 1) = ((j + 1 : Nat) : Int) := by rw [IntWalk.i64_in _ (by omega)]; omega
            have HTJ : Hid ((a.R.take (j + 1)).map (rowI a.d) = (a.R.take j).map (rowI a.d) ++ [rowI a.d a.R[j]]) := map_snoc _ _ _ h3
            clear hqc
            generalize a.R[j] = t at *
            obtain ⟨wj, hwj2⟩ : ∃ wj, wj = wr := ⟨_, rfl⟩
            subst hwj2
            have HYC : ∃ y0 y1 y2 y3 : Nat, y0 = t.getD 0 0 ∧ y1 = t.getD 1 0 ∧ y2 = t.getD 2 0 ∧ y3 = t.getD 3 0 := ⟨_, _, _, _, rfl, rfl, rfl, rfl⟩
            obtain ⟨y0, y1, y2, y3, e0, e1, e2, e3⟩ := HYC
            have HYK : Hid (∀ k, k < 4 → [Value.int .u8 (y0 : Nat), .int .u8 (y1 : Nat), .int .u8 (y2 : Nat), .int .u8 (y3 : Nat)][k]? = some (.int .u8 (t.getD k 0 : Nat))) := fun k hk => by
              match k, hk with
              | 0, _ => rw [e0]; rfl
              | 1, _ => rw [e1]; rfl
              | 2, _ => rw [e2]; rfl
              | 3, _ => rw [e3]; rfl
            rw [← e0] at d0
            rw [← e1] at d1
            rw [← e2] at d2
            rw [← e3] at d3
            clear e0 e1 e2 e3
            obtain ⟨W3, hW3⟩ : ∃ W3, W3 = wj.alloc (.cells #[.int .u8 (y0 : Nat), .int .u8 (y1 : Nat), .int .u8 (y2 : Nat), .int .u8 (y3 : Nat)] 67) := ⟨_, rfl⟩
            have hr3 : Row W3 wj.heap.size 67 [.int .u8 (y0 : Nat), .int .u8 (y1 : Nat), .int .u8 (y2 : Nat), .int .u8 (y3 : Nat)] := by rw [hW3]; exact Row.new wj 67 _
            have hx3 : Ext wj W3 := by rw [hW3]; exact (Ext.refl wj).alloc _
            have HR3 := Lib.hid hr3
            have HX3 := Lib.hid hx3
            have HZ3 : Hid (W3.heap.size = wj.heap.size + 1) := by show _ = _; rw [hW3]; simp
            clear hr3 hx3
            go_wp2_with fail
            rw [← hW3]
            clear hW3 d0 d1 d2 d3
            obtain ⟨W4, hW4⟩ : ∃ W4, W4 = W3.alloc (.cells #[] 71) := ⟨_, rfl⟩
            have HX4 : Hid (Ext W3 W4) := by rw [hW4]; exact (Ext.refl W3).alloc _
            have HE4 : Hid (W4.ownsRow W3.heap.size 71 3 (.slice (some ⟨W3.heap.size, 0, none⟩) 0 0) (rowI 0 t).length (rcells (rowI 0 t))) := by rw [hW4]; exact own_empty W3 _ _ _ (Nat.le_refl _)
            rw [← hW4]
            clear hW4
            go_loopw [16, 60] (fun v c wx => ∃ k : Nat, k ≤ a.d ∧ c = .int .i64 k ∧ wx.ownsRow W3.heap.size 71 3 v (rowI k t).length (rcells (rowI k t)) ∧ Below W3.heap.size W3 wx) (fun _ c _ => a.d - (intOf c).toNat)
            case atStart => exact ⟨0, Nat.zero_le _, rfl, by rw [← HZ3.out]; exact HE4.out, HX4.out.below⟩
            case round =>
              obtain ⟨k, hk, rfl, hown, hbk⟩ := hrel
              have HOK2 := Lib.hid hown
              have HBK2 := Lib.hid hbk
              have hzk2 := hbk.size
              have HKL := Lib.hid (rowI_len k t)
              obtain ⟨-, A5, C5, rfl, hc5, hm5, hs5, hf5⟩ := SlR.of_own hown
              have HF5 := Lib.hid (And.intro hc5 (And.intro hm5 (And.intro hs5 hf5)))
              have hr5 := HR3.out.up hbk
              have hb5z := hr5.lt
              clear hown hbk hc5 hm5 hs5 hf5
              by_cases h4 : k < a.d
              · have hck := (hr5.cell k).trans (HYK.out k (by omega))
                have g5 : (0 : Int) ≤ (k : Int) := by omega
                have g6 : (k : Int) < 4 := by omega
                have hwk2 : IntKind.i64.wrap ((k : Int) + 1) = ((k + 1 : Nat) : Int) := by rw [IntWalk.i64_in _ (by omega)]; omega
                have HSU := Lib.hid (rowI_succ k t)
                generalize t.getD k 0 = x at hck HSU
                clear hr5
                go_wp2_with
                  (at_builtin
                   refine app1V rfl (.tmp 63) (.tmp 70) rfl W3.heap.size (.slice A5 (rowI k t).length C5) (rowI k t) rfl (HOK2.out.alloc _) wr.heap.size (valI x) rfl ((Row.new wr 71 [.int .i64 1, .int .i64 ((x : Int) % 4), .string ⟨#[]⟩]).cell 0) ((Row.new wr 71 [.int .i64 1, .int .i64 ((x : Int) % 4), .string ⟨#[]⟩]).cell 1) ((Row.new wr 71 [.int .i64 1, .int .i64 ((x : Int) % 4), .string ⟨#[]⟩]).cell 2) (by have := HKL.out; omega) (by simp; omega) ?_
                   intro v' w6 hown6 hg6
                   rw [← HSU.out] at hown6
                   obtain ⟨-, A6, C6, rfl, -, -, -, -⟩ := SlR.of_own hown6
                   have HO6 := Lib.hid hown6
                   have HB6 : Hid (Below W3.heap.size W3 w6) := HBK2.out.trans (app_kept (fun b hb => own_base HOK2.out hb) hzk2 hg6)
                   clear hown6 hg6)
                go_wp2
                go_roundw
                case rel => exact ⟨k + 1, h4, by go_num, HO6.out, HB6.out⟩
                case measure => simp [intOf]; omega
              · obtain rfl : k = a.d := by omega
                clear hr5
                have HB5 := Lib.hid (Below.then HX3.out.below HBK2.out HX3.out.size)
                have HRS5 := Lib.hid ((HRS.out.keep HB5.out).keep ((Below.refl _ _).alloc (Nat.le_refl _) (.cells #[.slice A5 (rowI a.d t).length C5] 69)))
                have hz5 := HB5.out.size
                have HLT := Lib.hid (fun g hg => (own_lt (HRS.out).choose_spec.1 g hg))
                have HSL := Lib.hid (HF5.out.2.2.1.alloc1 (.cells #[.slice A5 (rowI a.d t).length C5] 69))
                have HLJ : Hid (((a.R.take j).map (rowI a.d)).length ≤ 12) := by
                  show _ ≤ _
                  rw [List.length_map, List.length_take]; omega
                go_wp2_with
                  (at_builtin
                   refine app1Row rfl (.tmp 73) (.tmp 75) rfl wv.heap.size u13 ((a.R.take j).map (rowI a.d)) rfl HRS5.out wr.heap.size A5 C5 (rowI a.d t) rfl (by go_simp) HSL.out HF5.out.1 HF5.out.2.1 (fun _ ad e e2 => by have h3 := HF5.out.2.2.2 ad e; have h4 := HLT.out _ e2; have := HZ3.out; omega) (by have := HLJ.out; omega) (by simp; omega) ?_
                   intro v' w7 hown7 hg7
                   rw [← HTJ.out] at hown7
                   have HO7 := Lib.hid hown7
                   have HB7 := Lib.hid (((Below.then HBJ.out HB5.out hzj).alloc (by omega) (.cells #[.slice A5 (rowI a.d t).length C5] 69)).grown hg7 (by simp; omega) HRS5.out.base)
                   clear hown7 hg7)
                go_wp2
                go_roundw
                case rel => exact ⟨j + 1, h3, by go_num, HO7.out, HB7.out⟩
                case measure => simp [intOf]; omega
          · have hrs := HRS.out
            rw [List.take_of_length_le (by omega)] at hrs
            obtain ⟨SA, SC, rfl, hsc, hsm, hss⟩ := hrs.sl
            have HWR := Lib.hid (Below.then HBW.out HBJ.out hzv)
            have hof := rlOf_any (a.d : Int) SA SC (a.R.map (rowI a.d)) wr (by omega) (by omega) hss (rowsI_ok (by omega) a.R) (by rw [List.length_map]; omega)
            rw [List.length_map] at hof ⊢
            have HOF := Lib.hid hof
            have HERR := Lib.hid (rowsI_err a.d a.R)
            have HOJ := Lib.hid (own_keep HO2.out HBJ.out)
            have hvlt := fun g hg => (own_lt HO2.out g hg)
            have HVLT := Lib.hid hvlt
            have hr2 := HR2.out.up HBJ.out
            have HR3 := Lib.hid hr2
            have b0 : wr.cell? ⟨wo.heap.size, 0, none⟩ = some (.int .u8 (a.v : Nat)) := hr2.cell 0
            have b1 : wr.cell? ⟨wo.heap.size, 1, none⟩ = some (.slice RA a.R.length RC) := hr2.cell 1
            have b2 : wr.cell? ⟨wo.heap.size, 2, none⟩ = some (.int .u8 (a.b : Nat)) := hr2.cell 2
            have hbz2 := hr2.lt
            clear hrs hsc hsm hss hof hvlt hr2 HRS
            go_wp2_with fail
            refine HOF.out.mono ?_
            rintro e w5 ⟨h1, -, hb5⟩
            obtain ⟨rv, rfl, PA, PC, rfl, hpc, hpm, hfr⟩ := h1 HERR.out
            have HFR : Hid (FreshRs wr.heap.size w5 PA a.rows) := hfr
            have HPC : Hid (a.rows.length ≤ PC ∧ PC ≤ 9223372036854775807) := ⟨hpc, hpm⟩
            have HPL : Hid ((RL.ofF (a.R.map (rowI a.d))).length = a.rows.length) := rfl
            rw [HPL.out]
            have HB5 := Lib.hid hb5
            have hz5 := hb5.size
            have hr5 := HR3.out.up hb5
            have HR5 := Lib.hid hr5
            clear h1 hpc hpm hfr hb5 HOF HERR HPL b0 b1 b2
            obtain ⟨W6, hW6⟩ : ∃ W6, W6 = w5.alloc (.cells #[.int .i64 (a.d : Nat), .slice PA a.rows.length PC] 34) := ⟨_, rfl⟩
            have hr6 : Row W6 w5.heap.size 34 [.int .i64 (a.d : Nat), .slice PA a.rows.length PC] := by rw [hW6]; exact Row.new w5 34 _
            have hx6 : Ext w5 W6 := by rw [hW6]; exact (Ext.refl w5).alloc _
            have hr56 := hr5.up hx6.below
            have b0 : W6.cell? ⟨wo.heap.size, 0, none⟩ = some (.int .u8 (a.v : Nat)) := hr56.cell 0
            have b1 : W6.cell? ⟨wo.heap.size, 1, none⟩ = some (.slice RA a.R.length RC) := hr56.cell 1
            have b2 : W6.cell? ⟨wo.heap.size, 2, none⟩ = some (.int .u8 (a.b : Nat)) := hr56.cell 2
            have hbz6 := hr56.lt
            have HR6 := Lib.hid hr6
            have HX6 := Lib.hid hx6
            have HO6 := Lib.hid (own_keep (own_keep HOJ.out HB5.out) hx6.below)
            have hz6 := hx6.size
            have HP5 : Hid (FreshRs wr.heap.size w5 PA a.rows) := HFR.out
            have HBO6 := Lib.hid (Below.then (Below.then (Below.then HBO.out HBJ.out (by have := HX1.out.size; have := HBK.out.size; omega)) HB5.out (by have := HX1.out.size; have := HBK.out.size; omega)) hx6.below (by have := HX1.out.size; have := HBK.out.size; omega))
            clear hr5 hr6 hx6 hr56
            go_upto_region 32 with (fail)
            rw [← hW6]
            clear hW6
            go_upto_block 8 with (fail)
            go_cut [11] from 91 to 105 (fun v wx => ∃ VB VD, v = .slice VB (badV a.b (ints a.ks)).length VD ∧ wx.ownsRow W1.heap.size 3 1 v (badV a.b (ints a.ks)).length ((badV a.b (ints a.ks)).map (Value.int .i64)) ∧ W6.grownBy wx (Value.slice VA a.d VC).ownBlock)
            case first =>
              have HLD : Hid ((ints a.ks).length = a.d) := ints_len a.ks
              have hnn : a.d ≤ 8 := hd8
              by_cases hb0 : a.b = 0
              · have hq0 : ((a.b : Int) == 0) = true := by rw [hb0]; rfl
                have HBV : Hid (badV a.b (ints a.ks) = ints a.ks) := by show _ = _; unfold badV; rw [if_pos hb0]
                clear hb0
                go_wp2_with fail
                go_meet
                case rel =>
                  rw [HBV.out, HLD.out]
                  exact ⟨VA, VC, rfl, HO6.out, ⟨rfl, rfl, rfl, Nat.le_refl _, fun _ _ _ => rfl⟩⟩
              have hq0 : ((a.b : Int) == 0) = false := by
                have : (a.b : Int) ≠ 0 := by omega
                simpa using this
              by_cases hb1 : a.b = 1
              · have hq1 : ((a.b : Int) == 1) = true := by rw [hb1]; rfl
                have HBV : Hid (badV a.b (ints a.ks) = ints a.ks ++ [9]) := by show _ = _; unfold badV; rw [if_neg hb0, if_pos hb1]
                clear hb0 hb1
                go_wp2_with
                  (at_builtin
                   refine app1Int rfl (.tmp 98) (.tmp 99) rfl W1.heap.size (.slice VA a.d VC) a.d ((ints a.ks).map (Value.int .i64)) rfl (HO6.out.alloc _) W6.heap.size [.int .i64 9] rfl (Row.new W6 3 [.int .i64 9]) rfl (by simp [Value.oneCell']) (by omega) (by simp; omega) ?_
                   intro v' w7 hown7 hg7 hat7
                   obtain ⟨A7, C7, rfl, -, -, -⟩ := own_slice hown7 (by decide)
                   have HO7 : Hid (∃ VB VD, Value.slice A7 (a.d + 1) C7 = .slice VB (badV a.b (ints a.ks)).length VD ∧ w7.ownsRow W1.heap.size 3 1 (Value.slice A7 (a.d + 1) C7) (badV a.b (ints a.ks)).length ((badV a.b (ints a.ks)).map (Value.int .i64)) ∧ W6.grownBy w7 (Value.slice VA a.d VC).ownBlock) := by
                     refine ⟨A7, C7, ?_, ?_, grown_alloc hg7⟩
                     · rw [HBV.out, List.length_append, HLD.out]; rfl
                     · rw [HBV.out, List.length_append, HLD.out, List.map_append]; exact hown7
                   clear hown7 hg7 hat7)
                go_wp2_with fail
                go_meet
                case rel => exact HO7.out
              have hq1 : ((a.b : Int) == 1) = false := by
                have : (a.b : Int) ≠ 1 := by omega
                simpa using this
              by_cases hb2 : a.b = 2
              · have hq2 : ((a.b : Int) == 2) = true := by rw [hb2]; rfl
                have HBV : Hid (badV a.b (ints a.ks) = ints a.ks ++ [0]) := by show _ = _; unfold badV; rw [if_neg hb0, if_neg hb1, if_pos hb2]
                clear hb0 hb1 hb2
                go_wp2_with
                  (at_builtin
                   refine app1Int rfl (.tmp 103) (.tmp 104) rfl W1.heap.size (.slice VA a.d VC) a.d ((ints a.ks).map (Value.int .i64)) rfl (HO6.out.alloc _) W6.heap.size [.int .i64 0] rfl (Row.new W6 3 [.int .i64 0]) rfl (by simp [Value.oneCell']) (by omega) (by simp; omega) ?_
                   intro v' w7 hown7 hg7 hat7
                   obtain ⟨A7, C7, rfl, -, -, -⟩ := own_slice hown7 (by decide)
                   have HO7 : Hid (∃ VB VD, Value.slice A7 (a.d + 1) C7 = .slice VB (badV a.b (ints a.ks)).length VD ∧ w7.ownsRow W1.heap.size 3 1 (Value.slice A7 (a.d + 1) C7) (badV a.b (ints a.ks)).length ((badV a.b (ints a.ks)).map (Value.int .i64)) ∧ W6.grownBy w7 (Value.slice VA a.d VC).ownBlock) := by
                     refine ⟨A7, C7, ?_, ?_, grown_alloc hg7⟩
                     · rw [HBV.out, List.length_append, HLD.out]; rfl
                     · rw [HBV.out, List.length_append, HLD.out, List.map_append]; exact hown7
                   clear hown7 hg7 hat7)
                go_wp2_with fail
                go_meet
                case rel => exact HO7.out
              have hq2 : ((a.b : Int) == 2) = false := by
                have : (a.b : Int) ≠ 2 := by omega
                simpa using this
              have HBV : Hid (badV a.b (ints a.ks) = -1 :: ints a.ks) := by show _ = _; unfold badV; rw [if_neg hb0, if_neg hb1, if_neg hb2]
              clear hb0 hb1 hb2
              have HSL6 : Hid (SlI .i64 W6.heap.size W6 VA (ints a.ks)) := by
                obtain ⟨A', C', e', -, hs'⟩ := Sl.of_own_n HO6.out
                injection e' with e1 _ e3
                subst e1 e3
                exact hs'
              go_wp2_with
                (at_builtin
                 refine appIs rfl (.tmp 91) (.tmp 92) rfl W1.heap.size (.slice (some ⟨W6.heap.size, 0, none⟩) 1 1) 1 [.int .i64 (-1)] ?_ ?_ VA a.d VC (ints a.ks) HLD.out ?_ ?_ ?_ ?_ ?_
                 · rfl
                 · exact own_one W6 W1.heap.size 3 (.int .i64 (-1)) (by omega)
                 · rfl
                 · exact (Sl.below HSL6.out ((Below.refl _ _).alloc (Nat.le_refl _) _) (Nat.le_refl _)).more (by simp)
                 · omega
                 · simp; omega
                 intro v' w7 hown7 hg7
                 obtain ⟨A7, C7, rfl, -, -, -⟩ := own_slice hown7 (by decide)
                 have HO7 : Hid (∃ VB VD, Value.slice A7 (1 + a.d) C7 = .slice VB (badV a.b (ints a.ks)).length VD ∧ w7.ownsRow W1.heap.size 3 1 (Value.slice A7 (1 + a.d) C7) (badV a.b (ints a.ks)).length ((badV a.b (ints a.ks)).map (Value.int .i64)) ∧ W6.grownBy w7 (Value.slice VA a.d VC).ownBlock) := by
                   have hl : (badV a.b (ints a.ks)).length = 1 + a.d := by rw [HBV.out, List.length_cons, HLD.out]; omega
                   refine ⟨A7, C7, by rw [hl], ?_, ?_⟩
                   · rw [hl, HBV.out]; exact hown7
                   · have h := grown_alloc hg7
                     exact ⟨h.os, h.tape, h.output, h.size, fun b hb _ => h.block b hb (by intro e; have e' : some b = some W6.heap.size := e; injection e' with e'; omega)⟩
                 clear hown7 hg7)
              go_wp2_with fail
              go_meet
              case rel => exact HO7.out
            case rest =>
              obtain ⟨VB, VD, rfl, hownB, hgB⟩ := hcut
              have hzc := hgB.size
              have hx1z := HX1.out.size
              have hvo : ∀ g, (Value.slice VA a.d VC).ownBlock = some g → W1.heap.size ≤ g ∧ g < wv.heap.size := fun g hg => ⟨own_base HO2.out hg, HVLT.out g hg⟩
              obtain ⟨hv1, hv2, hv3⟩ := own_held hownB
              have hbc : Below wo.heap.size wo wc := HBO6.out.grown hgB (by omega) (fun g hg => by have := hvo g hg; omega)
              have ht0 := (HM.out.three).push hbc (T := fun w'' => SlI .i64 wc.heap.size w'' VB (badV a.b (ints a.ks)) ∧ SlRs w5.heap.size w'' PA a.rows) fun w'' hk => ⟨hv3 w'' fun p h1 h2 => hk p (by omega) h2, HP5.out w'' fun p h1 h2 => (hk p (by omega) (by omega)).trans ((grown_cell hgB (p := p) (by omega) fun e => by have := hvo _ e.symm; omega).trans (HX6.out.below.cell (by omega)))⟩
              have hr5 := HR6.out.grown hgB (fun e => by have := hvo _ e.symm; omega)
              have HRC := Lib.hid hr5
              have HT1 := Lib.hid (ht0.up ((Below.refl _ _).alloc (Nat.le_refl _) (.cells #[.slice VB (badV a.b (ints a.ks)).length VD, .int .i64 (a.d : Nat), .slice PA a.rows.length PC] 36)))
              have HV := Lib.hid (And.intro hv1 hv2)
              have HBC := Lib.hid (Below.then HB.out hbc (by omega))
              have b0 : wc.cell? ⟨w5.heap.size, 0, none⟩ = some (.int .i64 (a.d : Nat)) := hr5.cell 0
              have b1 : wc.cell? ⟨w5.heap.size, 1, none⟩ = some (.slice PA a.rows.length PC) := hr5.cell 1
              have hb5 : w5.heap.size < wc.heap.size := hr5.lt
              have HZI : Hid (Z.length ≤ 3600000000000) := by have := HZL.out; show _ ≤ _; omega
              have HLO := Lib.hid (own_lt HM.out.out)
              have HWZ : Hid (w.heap.size ≤ (wc.alloc (.cells #[.slice VB (badV a.b (ints a.ks)).length VD, .int .i64 (a.d : Nat), .slice PA a.rows.length PC] 36)).heap.size) := by show _ ≤ _; have := HBC.out.size; simp; omega
              have HSMALL := Lib.hid (rlRows_any (a.d : Nat))
              have HRO : Hid (RsOk a.rows ∧ a.rows.length ≤ 12) := ⟨by
                intro r hr
                exact rowsI_ok (n := a.d) (by omega) a.R r ((RL.mem_ofF _ _).1 hr), Nat.le_trans (RL.ofF_length_le _) (by rw [List.length_map]; omega)⟩
              generalize hvs : badV a.b (ints a.ks) = vs at *
              generalize hrows : a.rows = P at *
              have HVS : Hid (a.ra = ⟨vs, (a.d : Nat), P⟩) := by show LA.ra a = _; unfold LA.ra; rw [hvs, hrows]
              clear hownB hgB hv1 hv2 hv3 hbc ht0 hr5 hvs hrows
              have hzw5 : wo.heap.size < w5.heap.size := by have := HBO.out.size; omega
              go_wp2_with
                (at_builtin
                 first
                   | (refine app1LA rfl (.tmp 106) (.tmp 110) rfl w.heap.size u6 Z.length (Z.flatMap outC) rfl HT1.out.out wc.heap.size [.slice VB vs.length VD, .int .i64 (a.d : Nat), .slice PA P.length PC] rfl (Row.new wc 36 [.slice VB vs.length VD, .int .i64 (a.d : Nat), .slice PA P.length PC]) rfl (by simp [Value.oneCell']) HZI.out HWZ.out ?_
                      intro v7 w7 hown7 hg7 hat7
                      obtain ⟨A7, C7, rfl, -, -, -⟩ := own_slice hown7 (by decide)
                      have HT2 := Lib.hid (HT1.out.growO hown7 hg7 hat7)
                      have hr7 := (HRC.out.up ((Below.refl _ _).alloc (Nat.le_refl _) (.cells #[.slice VB vs.length VD, .int .i64 (a.d : Nat), .slice PA P.length PC] 36))).grown hg7 (fun e => by have := HLO.out _ e.symm; omega)
                      have b0 : w7.cell? ⟨w5.heap.size, 0, none⟩ = some (.int .i64 (a.d : Nat)) := hr7.cell 0
                      have b1 : w7.cell? ⟨w5.heap.size, 1, none⟩ = some (.slice PA P.length PC) := hr7.cell 1
                      have hb57 : w5.heap.size < w7.heap.size := hr7.lt
                      have hzc7 : wc.heap.size ≤ w7.heap.size := by have := hg7.size; simp at this; omega
                      have HB7 := Lib.hid ((HBC.out.alloc HBC.out.size (.cells #[.slice VB vs.length VD, .int .i64 (a.d : Nat), .slice PA P.length PC] 36)).grown hg7 HWZ.out (fun k hk => own_base HM.out.out hk))
                      have HRLR := Lib.hid (rlRows_any (a.d : Nat) PA PC P w7 (HT2.out.el.now.2.2.more (by have := HT2.out; omega)) HRO.out.1 (by have := HRO.out.2; omega))
                      clear hown7 hg7 hat7 hr7)
                   | fail)
              refine HRLR.out.mono ?_
              rintro e w8 ⟨g8, rfl, hm8, hb8⟩
              have HJ := Lib.hid (l7RowsJ_any (some ⟨g8, 0, none⟩) P.length P w8 hm8.sl (by have := HRO.out.2; omega) HRO.out.1)
              have HB8 := Lib.hid hb8
              have hz8 := hb8.size
              clear hm8 hb8 HRLR b0 b1
              go_wp2_with fail
              refine HJ.out.mono ?_
              rintro e w9 ⟨v9, rfl, hj9, hb9⟩
              obtain ⟨QA, QC, rfl, hq1, hq2, hq3⟩ := hj9.sl (P := fun b => w8.heap.size ≤ b) (fun _ h => h)
              have hz9 := hb9.size
              have HT3 := Lib.hid ((HT2.out.push (Below.then HB8.out hb9 hz8) (T := fun w'' => SlRs w9.heap.size w'' QA P) (fun w'' hk => (hq3.keep (fun p h1 h2 => hk p (by omega) h1)).sl)).up ((Below.refl _ _).alloc (Nat.le_refl _) (.cells #[.slice VB vs.length VD, .slice QA P.length QC] 45)))
              have HQ2 := Lib.hid (And.intro hq1 hq2)
              have HB9 := Lib.hid (Below.then HB7.out (Below.then HB8.out hb9 hz8) HB7.out.size)
              have hw9 := HB9.out.size
              clear hj9 hq1 hq2 hq3 hb9 HJ
              go_wp2_with
                (at_builtin
                 first
                   | (refine app1RA rfl (.tmp 112) (.tmp 118) rfl w.heap.size u7 Z.length (Z.flatMap refC) rfl HT3.out.ref w9.heap.size [.slice VB vs.length VD, .slice QA P.length QC] rfl (Row.new w9 45 [.slice VB vs.length VD, .slice QA P.length QC]) rfl (by simp [Value.oneCell']) HZI.out (by simp; omega) ?_
                      intro v10 w10 hown10 hg10 hat10
                      obtain ⟨A10, C10, rfl, -, -, -⟩ := own_slice hown10 (by decide)
                      have HB10 := Lib.hid ((HB9.out.alloc HB9.out.size (.cells #[.slice VB vs.length VD, .slice QA P.length QC] 45)).grown hg10 (by simp; omega) (fun k hk => own_base HT3.out.ref hk))
                      have hw10 := HB10.out.size
                      have HT4 := Lib.hid ((HT3.out.growM hown10 hg10 hat10).up ((Below.refl _ _).alloc (Nat.le_refl _) (.cells #[.int .i64 (a.d : Nat)] 3)))
                      have hz10 : w9.heap.size ≤ w10.heap.size := by have := hg10.size; simp at this; omega
                      clear hown10 hg10 hat10)
                   | (refine app1Int rfl (.tmp 120) (.tmp 122) rfl w.heap.size u8 Z.length (Z.flatMap arC) rfl HT4.out.ar w10.heap.size [.int .i64 (a.d : Nat)] rfl (Row.new w10 3 [.int .i64 (a.d : Nat)]) rfl (by simp [Value.oneCell']) HZI.out (by simp; omega) ?_
                      intro v12 w12 hown12 hg12 hat12
                      obtain ⟨A12, C12, rfl, -, -, -⟩ := own_slice hown12 (by decide)
                      have HB12 := Lib.hid ((HB10.out.alloc HB10.out.size (.cells #[.int .i64 (a.d : Nat)] 3)).grown hg12 (by simp; omega) (fun k hk => own_base HT4.out.ar hk))
                      have HT5 := Lib.hid (HT4.out.growA hown12 hg12 hat12)
                      have hz12 : w10.heap.size ≤ w12.heap.size := by have := hg12.size; simp at this; omega
                      clear hown12 hg12 hat12)
                   | fail)
              go_roundw
              case rel =>
                refine ⟨i + 1, h1, by go_num, fun x hx => ?_, ⟨Z ++ [(⟨vs, (a.d : Nat), P⟩, ⟨VB, VD, PA, PC, QA, QC⟩)], ?_, ?_⟩, HB12.out⟩
                · rw [HTK.out] at hx
                  rcases List.mem_append.1 hx with hx | hx
                  · exact HALL.out x hx
                  · simp at hx; subst hx; exact HOK.out
                · rw [HTK.out, List.map_append, List.map_append, HZ.out]
                  congr 1
                  show _ = [a.ra]
                  rw [HVS.out]
                  rfl
                · exact MadeI.step rfl HT5.out (by omega) (by omega) (by omega) (by omega) HM.out.ok ⟨HV.out.1, HV.out.2, HPC.out.1, HPC.out.2, HQ2.out.1, HQ2.out.2⟩
              case measure => simp [intOf]; omega
end
section
open Go.RowKit Go.Sort

def j0 : List RL.R := [[valI 1, valI 2, valI 0], [valI 1, valI 3, valI 0]]
def four (t : List Nat) : List Value := [.int .u8 (t.getD 0 0 : Nat), .int .u8 (t.getD 1 0 : Nat), .int .u8 (t.getD 2 0 : Nat), .int .u8 (t.getD 3 0 : Nat)]
theorem slA_row {W : World} {b B : Nat} {T : TypeId} (X : List (List Nat)) (hr : Row W b T (X.flatMap four)) (hb : b < B) : SlA 4 B W (some ⟨b, 0, none⟩) X := fun _ => by
  refine ⟨b, 0, rfl, hb, fun i hi k hk => ?_⟩
  rw [Nat.zero_add]
  refine (hr.cell (i * 4 + k)).trans ((flat_get four 4 (fun _ => rfl) X i k hi hk).trans ?_)
  match k, hk with
  | 0, _ => rfl
  | 1, _ => rfl
  | 2, _ => rfl
  | 3, _ => rfl
end
section
open Go.RowKit Go.Sort

structure DenM (base : Nat) (w : World) (Z : List (RA × HM)) (vo : Value) : Prop where
  own : w.ownsRow base 45 2 vo Z.length (Z.flatMap refC)
  el : Stab (fun b => vo.ownBlock = some b) w fun w'' => ∀ z ∈ Z, ElR w.heap.size z w''
  ok : ∀ z ∈ Z, HmOk z
theorem DenM.nil (base : Nat) (w : World) : DenM base w [] (.slice none 0 0) :=
  ⟨own_nil _ _ _ _, fun _ _ z hz => (by simp at hz), fun z hz => (by simp at hz)⟩
theorem DenM.up {base : Nat} {w w' : World} {Z : List (RA × HM)} {vo : Value} (h : DenM base w Z vo) (hb : Below w.heap.size w w') : DenM base w' Z vo :=
  ⟨own_keep h.own hb, (h.el.up hb).imp fun _ hs z hz => (hs z hz).more hb.size, h.ok⟩
theorem DenM.app {base : Nat} {w w' : World} {Z : List (RA × HM)} {vo v' : Value} (h : DenM base w Z vo) {z : RA × HM} (hz : HmOk z) (he : Stab (fun b => vo.ownBlock = some b) w fun w'' => ElR w.heap.size z w'')
    (hown : w'.ownsRow base 45 2 v' (Z.length + 1) (Z.flatMap refC ++ refC z)) (hg : w.grownBy w' vo.ownBlock) (hb : ∀ b, v'.ownBlock = some b → vo.ownBlock = some b ∨ b = w.heap.size) : DenM base w' (Z ++ [z]) v' := by
  have hF : ∀ b, b < w.heap.size → v'.ownBlock = some b → vo.ownBlock = some b := fun b hlt e => (hb b e).resolve_right (by omega)
  refine ⟨?_, ?_, fun y hy => ?_⟩
  · rw [List.length_append, List.flatMap_append]
    have : [z].flatMap refC = refC z := by simp
    rw [this]
    exact hown
  · refine ((h.el.and he).grow hg (fun _ e => e) hF).imp fun w'' hs y hy => ?_
    rcases List.mem_append.1 hy with hy | hy
    · exact (hs.1 y hy).more hg.size
    · rw [List.mem_singleton.1 hy]; exact hs.2.more hg.size
  · rcases List.mem_append.1 hy with hy | hy
    · exact h.ok y hy
    · rw [List.mem_singleton.1 hy]; exact hz
theorem DenM.fin {base : Nat} {w : World} {Z : List (RA × HM)} {vo : Value} (h : DenM base w Z vo) : ∃ A C, vo = .slice A Z.length C ∧ AtsR w.heap.size w A (Z.map Prod.fst) := by
  obtain ⟨A2, C2, e2, c2, d2, f2⟩ := own_slice h.own (by decide)
  have hel := h.el.now
  refine ⟨A2, C2, e2, fun hn => ?_⟩
  have hz : Z ≠ [] := by intro e; subst e; exact hn rfl
  have hne : Z.flatMap refC ≠ [] := fun h0 => by
    obtain ⟨z, t, rfl⟩ := List.exists_cons_of_ne_nil hz
    rw [List.flatMap_cons] at h0
    have := (List.append_eq_nil_iff.1 h0).1
    simp [refC] at this
  obtain ⟨b, rfl, hb, hc⟩ := f2 hne
  refine ⟨b, 0, rfl, hb, fun i hi => ?_⟩
  rw [List.length_map] at hi
  have hm : Z[i] ∈ Z := List.getElem_mem hi
  have ho := h.ok _ hm
  have he := hel _ hm
  have g := fun j hj => flat_get refC 2 (fun _ => rfl) Z i j hi hj
  rw [List.getElem_map]
  exact ⟨_, _, _, _, by rw [Nat.zero_add]; exact hc _ _ (g 0 (by omega)), by rw [Nat.zero_add]; exact hc _ _ (g 1 (by omega)), ho.v1, ho.v2, ho.q1, ho.q2, he.1, he.2.2⟩
theorem refS2_any {m : Nat} {X : List RA} (hg : Good0 m X) (hm : m ≤ 8) (A : Option Addr) (C : Nat) (w : World) (hr : AtsR w.heap.size w A X) :
    Calls Tryz.prog 34 #[.int .i64 m, .slice none 0 0, .slice A X.length C] w fun e w' => ∃ B D, e = .returned (.slice B (joinF m (X.map RA.at)).length D) ∧ (joinF m (X.map RA.at)).length ≤ D ∧ D ≤ 9223372036854775807 ∧ SlRsP (fun b => w.heap.size ≤ b) w'.heap.size w' B (joinF m (X.map RA.at)) ∧ Below w.heap.size w w' :=
  (r35Join_any m C A X hm (Nat.le_trans hg.many (by omega)) (fun a ha => (hg.sm a ha).ref (hg.ok a ha)) hg.at (fun v => Nat.le_trans (valsF_four hg.sm hg.ok v) (by omega)) m [] none 0 w (by simp) ⟨by simp, fun v hv => by simp at hv⟩ hr SlR.nil (Nat.le_refl _) (by omega)).mono fun e w' h => by
    unfold RJPost at h
    rw [hg.refJ] at h
    obtain ⟨⟨B, D, he, h1, h2, h3⟩, hb⟩ := h
    exact ⟨B, D, he, h1, h2, h3.weak fun b _ hb => hb.elim id (fun ⟨ad, e, _⟩ => by cases e), hb⟩
theorem slI_own {w : World} {base : Nat} {e : TypeId} {A : Option Addr} {C n m : Nat} {U : List Nat} (h : w.ownsRow base e 1 (.slice A n C) m (U.map fun i : Nat => Value.int .i64 (i : Nat))) : SlI .i64 w.heap.size w A (U.map Int.ofNat) := by
  obtain ⟨UA, UC, e, -, -, k3⟩ := Sl.of_own h
  injection e with e1 e2 e3
  subst e1
  show Sl _ _ _ _
  rw [List.map_map]
  exact k3
def JoinRP (al : List At) (w : World) (e : Ending) (w' : World) : Prop := ∃ v, e = .returned v ∧ RefV w' v ((joinR al).vs.map Int.ofNat) (joinR al).P ∧ Below w.heap.size w w'

set_option maxHeartbeats 16000000 in
theorem r36Join_any (AA : Option Addr) (AC : Nat) (al : List At) (w : World) (hA : AtsR w.heap.size w AA (al.map At.ra)) (hl : al.length ≤ 32) (hg : ∀ a ∈ al, Gd a) (h8 : (unionV al).length ≤ 8) :
    Calls Tryz.prog 15 #[.slice AA al.length AC] w (JoinRP al w) := by
  obtain ⟨U, hU⟩ : ∃ U, U = unionV al := ⟨_, rfl⟩
  have HGOOD : Hid (Good0 U.length (denseR U al)) := by show Good0 _ _; rw [hU]; exact dense_good hg hl
  have HJR : Hid ((joinR al).vs = U ∧ (joinR al).P = joinF U.length ((denseR U al).map RA.at)) := ⟨hU.symm, by rw [denseR_at, hU]; rfl⟩
  have HUM : Hid (∀ a ∈ al, ∀ v ∈ a.vs, v ∈ U) := fun a ha v hv => by rw [hU]; exact (mem_unionV hg v).2 ⟨a, ha, hv⟩
  obtain ⟨den, hden⟩ : ∃ den : At → RA, den = fun a => (denseA U a).ra := ⟨_, rfl⟩
  have HDEN := Lib.hid hden
  have HDR : Hid (denseR U al = al.map den) := by show _ = _; rw [hden]; rfl
  have HDL : Hid ((denseR U al).length = al.length) := by show _ = _; rw [HDR.out, List.length_map]
  obtain ⟨W0, hW0⟩ : ∃ W0, W0 = w.alloc (.cells #[.slice none 0 0, .slice none 0 0] 45) := ⟨_, rfl⟩
  have hx0 : Ext w W0 := by rw [hW0]; exact (Ext.refl w).alloc _
  have hr0 : Row W0 w.heap.size 45 [.slice none 0 0, .slice none 0 0] := by rw [hW0]; exact Row.new w 45 _
  have hW0z : W0.heap.size = w.heap.size + 1 := by rw [hW0]; simp
  have HVP := Lib.hid (r36Vars_any AA AC al W0 (hA.upB hx0.below) (by omega) hg)
  have HA := Lib.hid hA
  have HG := Lib.hid hg
  have HX0 := Lib.hid hx0
  have HR0 := Lib.hid hr0
  have HW0E := Lib.hid hW0
  rw [← hU] at h8
  unfold VarsPost at HVP
  rw [← hU] at HVP
  clear hA hg hx0 hr0 hW0 hden hU
  go_enter Tryz.func15, Tryz.ntmps15
  go_upto_region 1 with (fail)
  rw [← HW0E.out]
  clear HW0E
  go_wp2_with fail
  refine HVP.out.mono ?_
  rintro e w1 ⟨vU, rfl, hown, hb1⟩
  obtain ⟨UA, UC, e, -, -, -⟩ := Sl.of_own hown
  rw [List.length_map] at e
  subst e
  have HOU : Hid (w1.ownsRow (w.heap.size + 1) 3 1 (.slice UA U.length UC) U.length (U.map fun i : Nat => Value.int .i64 (i : Nat))) := by have h := hown; rw [hW0z] at h; exact h
  obtain ⟨u1, u2⟩ := own_cap hown
  have hus : SlI .i64 w1.heap.size w1 UA (U.map Int.ofNat) := slI_own hown
  have HUC := Lib.hid (And.intro u1 u2)
  have HUS := Lib.hid hus
  have HB1 := Lib.hid (Below.then HX0.out.below hb1 HX0.out.size)
  have HR1 := Lib.hid (HR0.out.up hb1)
  obtain ⟨B, hB⟩ : ∃ B, B = w1.heap.size := ⟨_, rfl⟩
  have HBE := Lib.hid hB
  have HZ1 : Hid (w.heap.size < w1.heap.size) := HR1.out.lt
  clear hown u1 u2 hus hb1 hB HVP HX0 HR0 hW0z
  go_upto_region 2 with (fail)
  go_wp2_with fail
  go_loopw [4, 5] (fun vo c wx => ∃ (k : Nat) (Z : List (RA × HM)), k ≤ al.length ∧ c = .int .i64 k ∧ Z.map Prod.fst = (al.take k).map den ∧ DenM B wx Z vo ∧ Below B w1 wx) (fun _ c _ => al.length - (intOf c).toNat)
  case atStart => exact ⟨0, [], Nat.zero_le _, rfl, rfl, DenM.nil _ _, Below.refl _ _⟩
  case round =>
    obtain ⟨k, Z, hk, rfl, hZ, hdn, hbw⟩ := hrel
    have HZE := Lib.hid hZ
    have HD := Lib.hid hdn
    have HB := Lib.hid hbw
    have HBW : Hid (Below w1.heap.size w1 wr) := by have h := hbw; rw [HBE.out] at h; exact h
    have HBA : Hid (Below w.heap.size w wr) := Below.then HB1.out HBW.out HB1.out.size
    clear hZ hdn hbw
    by_cases hkl : k < al.length
    rotate_left
    · obtain rfl : k = al.length := by omega
      have r1 : ¬ (al.length : Int) < (al.length : Int) := by omega
      obtain ⟨DA, DC, rfl, hat⟩ := HD.out.fin
      have hze : Z.map Prod.fst = denseR U al := by rw [HZE.out, List.take_length, HDR.out]
      have hzl : Z.length = al.length := by
        have := congrArg List.length hze
        rw [List.length_map, HDL.out] at this
        exact this
      rw [hze] at hat
      have HRJ := Lib.hid (refS2_any HGOOD.out h8 DA DC wr hat)
      rw [HDL.out] at HRJ
      rw [hzl]
      have HRR := Lib.hid (HR1.out.up HBW.out)
      clear hat hze hzl
      have HJP := Lib.hid HJR.out.2
      have HJV := Lib.hid HJR.out.1
      rw [← HJP.out] at HRJ
      go_wp2_with fail
      refine HRJ.out.mono ?_
      rintro e w2 ⟨JA, JC, rfl, k1, k2, hs, hb2⟩
      have HBJ := Lib.hid hb2
      have HR2 := Lib.hid (HRR.out.up hb2)
      have HB2 := Lib.hid (Below.then HBA.out hb2 HBA.out.size)
      have HU2 := Lib.hid ((Sl.below HUS.out (Below.then HBW.out hb2 HBW.out.size) (Nat.le_refl _)).more (Below.then HBW.out hb2 HBW.out.size).size)
      have HJC := Lib.hid (And.intro k1 k2)
      have HJS := Lib.hid hs
      have m0 : w2.cell? ⟨w.heap.size, 0, none⟩ = some (.slice none 0 0) := HR2.out.cell 0
      have m1 : w2.cell? ⟨w.heap.size, 1, none⟩ = some (.slice none 0 0) := HR2.out.cell 1
      have m2 := HR2.out.frozen 0
      have m3 := HR2.out.frozen 1
      have m4 := HR2.out.lt
      clear k1 k2 hs hb2 HRJ
      generalize hJ : (joinR al).P = J at *
      have HJ := Lib.hid hJ
      clear hJ
      go_wp2_with fail
      obtain ⟨V6, hV6⟩ : ∃ V', V' = (w2.setCell ⟨w.heap.size, 0, none⟩ (.slice UA U.length UC)).setCell ⟨w.heap.size, 1, none⟩ (.slice JA J.length JC) := ⟨_, rfl⟩
      rw [← hV6]
      have q : Row V6 w.heap.size 45 [.slice UA U.length UC, .slice JA J.length JC] := by rw [hV6]; exact (HR2.out.set 0 _).set 1 _
      have f0 := q.cell 0
      have f1 := q.cell 1
      have hcell : ∀ p : Addr, p.block ≠ w.heap.size → V6.cell? p = w2.cell? p := fun p hp => by
        rw [hV6, World.cell?_setCell_other _ _ _ _ (fun e => hp (by rw [← e])), World.cell?_setCell_other _ _ _ _ (fun e => hp (by rw [← e]))]
      have hsz : V6.heap.size = w2.heap.size := by rw [hV6]; simp
      have hu6 : SlI .i64 V6.heap.size V6 UA (U.map Int.ofNat) := by
        have h2 := own_keep HOU.out (Below.then HBW.out HBJ.out HBW.out.size)
        refine slI_own (n := U.length) (C := UC) (e := 3) (base := w.heap.size + 1) (m := U.length) ?_
        rw [hV6]
        exact own_far (own_far h2 (p := ⟨w.heap.size, 0, none⟩) (fun e => by have h1 := own_base h2 e; simp only at h1; omega) _) (p := ⟨w.heap.size, 1, none⟩) (fun e => by have h1 := own_base h2 e; simp only at h1; omega) _
      refine bodyPost_ret (v := .agg #[.slice UA U.length UC, .slice JA J.length JC]) (by simp [results, Tryz.results15, go_sem, f0, f1]) rfl ?_
      unfold JoinRP
      rw [HJ.out, HJV.out]
      refine ⟨_, rfl, ⟨UA, UC, JA, JC, by rw [List.length_map], by rw [List.length_map]; exact HUC.out.1, HUC.out.2, HJC.out.1, HJC.out.2, hu6, ?_⟩, ?_⟩
      · rw [hsz]
        exact (HJS.out.keep fun p _ h2 => hcell p (by have := HZ1.out; have := HBW.out.size; omega)).sl
      · rw [hV6]
        exact (HB2.out.setCell (p := ⟨w.heap.size, 0, none⟩) (Nat.le_refl _) _).setCell (p := ⟨w.heap.size, 1, none⟩) (Nat.le_refl _) _
    have r0 : (0 : Int) ≤ (k : Int) := by omega
    have r1 : (k : Int) < (al.length : Int) := by omega
    have r3 : IntKind.i64.wrap ((k : Int) + 1) = ((k + 1 : Nat) : Int) := by rw [IntWalk.i64_in _ (by omega)]; omega
    obtain ⟨ab, ao, VA, VC, QA, QC, rfl, hab, a0, a1, c1, c2, c3, c4, av, aq⟩ := atsR_at HA.out (i := k) (by rw [List.length_map]; exact hkl)
    have HGK := Lib.hid (HG.out _ (List.getElem_mem hkl))
    have HUK : Hid (∀ v ∈ al[k].vs, v ∈ U) := HUM.out _ (List.getElem_mem hkl)
    have HTK : Hid ((al.take (k + 1)).map den = (al.take k).map den ++ [den al[k]]) := by show _ = _; rw [List.take_succ_eq_append_getElem hkl, List.map_append]; rfl
    simp only [List.getElem_map] at a0 a1 av aq c1 c3
    have HVS : Hid (SlI .i64 w.heap.size w VA (al[k].vs.map Int.ofNat)) := av
    have HQS : Hid (SlRs w.heap.size w QA al[k].P) := aq
    have HDK : Hid (den al[k] = (denseA U al[k]).ra) := by show _ = _; rw [HDEN.out]
    have hvl : al[k].ra.vs.length = al[k].vs.length := List.length_map ..
    rw [hvl] at a0 c1
    have a1 : w.cell? ⟨ab, ao + k * 2 + 1, none⟩ = some (.slice QA al[k].P.length QC) := a1
    have HCC : Hid ((al[k].vs.length ≤ VC ∧ VC ≤ 9223372036854775807) ∧ al[k].P.length ≤ QC ∧ QC ≤ 9223372036854775807) := ⟨⟨c1, c2⟩, c3, c4⟩
    clear av aq hvl c1 c2 c3 c4
    generalize al[k] = a at *
    have HHB := Lib.hid hab
    have HA0 := Lib.hid a0
    have a0 := (HBA.out.cell (p := ⟨ab, ao + k * 2, none⟩) hab).trans a0
    have a1 := (HBA.out.cell (p := ⟨ab, ao + k * 2 + 1, none⟩) hab).trans a1
    have hab2 : ab < wr.heap.size := Nat.lt_of_lt_of_le hab HBA.out.size
    clear hab
    obtain ⟨us, P⟩ := a
    simp only at HVS HQS HGK HUK HCC a0 a1 HA0
    have hul : us.length ≤ 32 := HGK.out.vl
    obtain ⟨wo, hwo⟩ : ∃ wo, wo = wr := ⟨_, rfl⟩
    subst hwo
    obtain ⟨vo, hvo⟩ : ∃ vo, vo = u4 := ⟨_, rfl⟩
    obtain ⟨W3, hW3⟩ : ∃ W3, W3 = wo.alloc (.cells #[.slice none 0 0, .slice QA P.length QC] 45) := ⟨_, rfl⟩
    obtain ⟨gi, hgi⟩ : ∃ gi, gi = wo.heap.size := ⟨_, rfl⟩
    have HX3 : Hid (Ext wo W3) := by show Ext _ _; rw [hW3]; exact (Ext.refl wo).alloc _
    have HR8 : Hid (Row W3 gi 45 [.slice none 0 0, .slice QA P.length QC]) := by show Row _ _ _ _; rw [hW3, hgi]; exact Row.new wo 45 _
    have HW3E := Lib.hid hW3
    have HGIE := Lib.hid hgi
    have HZ3 : Hid (gi + 1 = W3.heap.size) := by show _ = _; rw [hW3, hgi]; simp
    clear hW3 hgi hvo
    go_upto_region 7 with (fail)
    rw [← HW3E.out, ← HGIE.out]
    clear HW3E a0 a1 hab2
    go_wp2_with fail
    go_loopw [7] (fun c wx => ∃ (j : Nat) (v : Value), j ≤ us.length ∧ c = .int .i64 j ∧ Row wx gi 45 [v, .slice QA P.length QC] ∧ wx.ownsRow (gi + 1) 3 1 v j ((us.take j).map fun x : Nat => Value.int .i64 (U.idxOf x : Nat)) ∧ Below gi W3 wx) (fun c _ => us.length - (intOf c).toNat)
    case atStart => exact ⟨0, _, Nat.zero_le _, rfl, HR8.out, own_nil _ _ _ _, Below.refl _ _⟩
    case round =>
      obtain ⟨j, v, hj, rfl, hrow, hown, hbw⟩ := hrel
      have HROW := Lib.hid hrow
      have HO := Lib.hid hown
      have HBI : Hid (Below wo.heap.size wo wr) := Below.then HX3.out.below (by have h := hbw; rw [HGIE.out] at h; exact h) (Nat.le_refl _)
      have HBG := Lib.hid hbw
      have HB1I : Hid (Below w1.heap.size w1 wr) := Below.then HBW.out HBI.out HBW.out.size
      have HBAI : Hid (Below w.heap.size w wr) := Below.then HBA.out HBI.out HBA.out.size
      have a0 := (HBAI.out.cell (p := ⟨ab, ao + k * 2, none⟩) HHB.out).trans HA0.out
      have hab2 : ab < wr.heap.size := Nat.lt_of_lt_of_le HHB.out HBAI.out.size
      have q0 : wr.cell? ⟨gi, 0, none⟩ = some v := hrow.cell 0
      have q1 : wr.cell? ⟨gi, 1, none⟩ = some (.slice QA P.length QC) := hrow.cell 1
      have q2 := hrow.lt
      have HGZ : Hid (wo.heap.size ≤ gi ∧ gi < wr.heap.size) := ⟨Nat.le_of_eq HGIE.out.symm, q2⟩
      clear hrow hown hbw
      by_cases hjl : j < us.length
      rotate_left
      · obtain rfl : j = us.length := by omega
        have t1 : ¬ (us.length : Int) < (us.length : Int) := by omega
        have hown := HO.out
        rw [List.take_length] at hown
        obtain ⟨NA, NC, e, n1, -, n3⟩ := Sl.of_own hown
        rw [List.length_map] at e n1
        subst e
        have n2 := (own_cap hown).2
        have hbn : ∀ b, (Value.slice NA us.length NC).ownBlock = some b → gi + 1 ≤ b := fun b hb => own_base hown hb
        have hzv : (denseA U ⟨us, P⟩).ra.vs = us.map fun x => (U.idxOf x : Int) := by
          unfold denseA At.ra
          simp only [List.map_map]
          rfl
        have HHM : Hid (HmOk (den ⟨us, P⟩, ⟨NA, NC, QA, QC, QA, QC⟩)) := by
          show HmOk _
          rw [HDK.out]
          have e1 : (denseA U ⟨us, P⟩).ra.vs.length = us.length := by rw [hzv, List.length_map]
          exact ⟨by show (denseA U ⟨us, P⟩).ra.vs.length ≤ NC; omega, n2, HCC.out.2.1, HCC.out.2.2, HCC.out.2.1, HCC.out.2.2⟩
        have HDW := Lib.hid (HD.out.up HBI.out)
        have HVB : Hid (∀ b, u4.ownBlock = some b → b < wo.heap.size ∧ B ≤ b) := fun b hb => ⟨own_lt HD.out.own b hb, own_base HD.out.own hb⟩
        have HEL : Hid (Stab (fun b => u4.ownBlock = some b) wr fun w'' => ElR wr.heap.size (den ⟨us, P⟩, ⟨NA, NC, QA, QC, QA, QC⟩) w'') := fun w'' hag => by
          rw [HDK.out]
          have hq : SlRs wr.heap.size w'' QA P := ((HQS.out.keep fun p hp => (hag p (Nat.lt_of_lt_of_le hp HBAI.out.size) fun h4 => by have h5 := (HVB.out _ h4).2; have := HZ1.out; have := HBE.out; omega).trans (HBAI.out.cell hp)).more HBAI.out.size)
          refine ⟨?_, hq, hq⟩
          show Sl _ _ _ _
          rw [hzv, List.map_map]
          intro hne
          obtain ⟨b, o, e2, hb, hc⟩ := n3 hne
          refine ⟨b, o, e2, hb, fun i u hu => (hag ⟨b, o + i, none⟩ hb fun h4 => ?_).trans (hc i u hu)⟩
          have h5 := hbn b (by rw [e2]; rfl)
          have h6 := (HVB.out b h4).1
          have := HGZ.out
          omega
        have HRC : Hid (refC (den ⟨us, P⟩, ⟨NA, NC, QA, QC, QA, QC⟩) = [.slice NA us.length NC, .slice QA P.length QC]) := by
          show _ = _
          rw [HDK.out]
          have e1 : (denseA U ⟨us, P⟩).ra.vs.length = us.length := by rw [hzv, List.length_map]
          unfold refC
          simp only [e1]
          rfl
        have HZL : Hid (Z.length ≤ 32) := by
          have h1 := congrArg List.length HZE.out
          rw [List.length_map, List.length_map, List.length_take] at h1
          show _ ≤ _
          omega
        obtain ⟨z, hz⟩ : ∃ z : RA × HM, z = (den ⟨us, P⟩, ⟨NA, NC, QA, QC, QA, QC⟩) := ⟨_, rfl⟩
        have HZF : Hid (z.1 = den ⟨us, P⟩) := by show _ = _; rw [hz]
        rw [← hz] at HHM HEL HRC
        have HDA : Hid (∀ o : Obj, DenM B (wr.alloc o) Z u4) := fun o => HDW.out.up ((Ext.refl wr).alloc o).below
        have HELA : Hid (∀ o : Obj, Stab (fun b => u4.ownBlock = some b) (wr.alloc o) fun w'' => ElR (wr.alloc o).heap.size z w'') := fun o => (HEL.out.up ((Ext.refl wr).alloc o).below).imp fun _ h => h.more ((Ext.refl wr).alloc o).size
        have HBZ : Hid (∀ o : Obj, B ≤ (wr.alloc o).heap.size) := fun o => Nat.le_trans (by rw [HBE.out]; exact HB1I.out.size) ((Ext.refl wr).alloc o).size
        have HB1A : Hid (∀ o : Obj, Below B w1 (wr.alloc o)) := fun o => by rw [HBE.out]; exact Below.then HB1I.out ((Ext.refl wr).alloc o).below HB1I.out.size
        have HRN := Lib.hid (Row.new wr 45 [.slice NA us.length NC, .slice QA P.length QC])
        have hu4 := HVB
        clear hown n1 n2 n3 hbn hzv hz hu4 HEL HDW
        go_wp2_with (at_builtin; refine app1RA rfl (.tmp 53) (.tmp 55) rfl B u4 Z.length (Z.flatMap refC) rfl (HDA.out _).own wr.heap.size [.slice NA us.length NC, .slice QA P.length QC] rfl HRN.out rfl (by simp [Value.oneCell']) (by have := HZL.out; omega) (HBZ.out _) ?_
                     intro v5 w5 hown5 hg5 hb5
                     have HD5 : Hid (DenM B w5 (Z ++ [z]) v5) := (HDA.out _).app HHM.out (HELA.out _) (by rw [HRC.out]; exact hown5) hg5 hb5
                     have HB5 : Hid (Below B w1 w5) := (HB1A.out _).grown hg5 (HBZ.out _) (fun j hj => (HVB.out j hj).2)
                     clear hown5 hg5 hb5)
        go_roundw
        case rel => exact ⟨k + 1, Z ++ [z], hkl, by go_num, by rw [List.map_append, HTK.out, HZE.out, List.map_singleton, HZF.out], HD5.out, HB5.out⟩
        case measure => simp [intOf]; omega
      have t0 : (0 : Int) ≤ (j : Int) := by omega
      have t1 : (j : Int) < (us.length : Int) := by omega
      have t3 : IntKind.i64.wrap ((j : Int) + 1) = ((j + 1 : Nat) : Int) := by rw [IntWalk.i64_in _ (by omega)]; omega
      obtain ⟨vb, vj, hva, hvb, vc⟩ := slI_at HVS.out (i := j) (by rw [List.length_map]; exact hjl)
      subst hva
      have vc := (HBAI.out.cell (p := ⟨vb, vj + j, none⟩) hvb).trans vc
      rw [List.getElem_map] at vc
      change wr.cell? ⟨vb, vj + j, none⟩ = some (.int .i64 (us[j] : Nat)) at vc
      have hvb2 : vb < wr.heap.size := Nat.lt_of_lt_of_le hvb HBAI.out.size
      have hin : us[j] ∈ U := HUK.out _ (List.getElem_mem hjl)
      have HTJ : Hid ((us.take (j + 1)).map (fun x : Nat => Value.int .i64 (U.idxOf x : Nat)) = (us.take j).map (fun x : Nat => Value.int .i64 (U.idxOf x : Nat)) ++ [.int .i64 (U.idxOf us[j] : Nat)]) := by show _ = _; rw [List.take_succ_eq_append_getElem hjl, List.map_append]; rfl
      have hlm : (U.map Int.ofNat).length = U.length := List.length_map ..
      have HIN := Lib.hid (r36In_any UA UC (U.map Int.ofNat) (us[j] : Int) wr ((Sl.below HUS.out HB1I.out (Nat.le_refl _)).more HB1I.out.size) (by rw [hlm]; omega))
      rw [hlm, inF_nat, if_pos hin] at HIN
      clear hlm hin hvb
      generalize us[j] = uv at *
      have HLI : Hid (((us.take j).map fun x : Nat => Value.int .i64 (U.idxOf x : Nat)).length = j) := by show _ = _; rw [List.length_map, List.length_take]; omega
      generalize (us.take j).map (fun x : Nat => Value.int .i64 (U.idxOf x : Nat)) = cs at *
      go_wp2_with fail
      refine HIN.out.mono ?_
      rintro e w4 ⟨rfl, hw4⟩
      obtain rfl := hw4.symm
      clear HIN
      generalize U.idxOf uv = z at *
      have HROWA : Hid (∀ o : Obj, Row (wr.alloc o) gi 45 [v, .slice QA P.length QC]) := fun o => HROW.out.alloc o
      have HOA : Hid (∀ o : Obj, (wr.alloc o).ownsRow (gi + 1) 3 1 v j cs) := fun o => own_keep HO.out ((Ext.refl wr).alloc o).below
      have HBA3 : Hid (∀ o : Obj, Below gi W3 (wr.alloc o)) := fun o => Below.then HBG.out ((Ext.refl wr).alloc o).below (by have := HBG.out.size; have := HZ3.out; omega)
      have HOB : Hid (∀ b, v.ownBlock = some b → gi + 1 ≤ b) := fun b hb => own_base HO.out hb
      have HGA : Hid (∀ o : Obj, gi + 1 ≤ (wr.alloc o).heap.size) := fun o => Nat.le_trans (by have := HGZ.out.2; omega) ((Ext.refl wr).alloc o).size
      have HRN := Lib.hid ((Row.new wr 3 [.int .i64 (z : Nat)]).cell 0)
      have HVF : Hid (∀ b, v.ownBlock = some b → b ≠ gi) := fun b hb => by have := HOB.out b hb; omega
      go_wp2_with (at_builtin; go_loud (refine app1Int27 rfl (.tmp 48) (.tmp 50) rfl (gi + 1) v j cs rfl (HOA.out _) wr.heap.size (z : Int) rfl HRN.out (by omega) (HGA.out _) ?_)
                   intro v5 w5 hown5 hg5
                   have HR5 : Hid (Row w5 gi 45 [v, .slice QA P.length QC]) := (HROWA.out _).grown hg5 (fun e => HVF.out _ e.symm rfl)
                   have HO5 := Lib.hid hown5
                   have HB5 : Hid (Below gi W3 w5) := (HBA3.out _).grown hg5 (by have := HGA.out (.cells #[.int .i64 (z : Nat)] 3); omega) (fun j hj => by have := HOB.out j hj; omega)
                   have e0 : w5.cell? ⟨gi, 0, none⟩ = some v := HR5.out.cell 0
                   have e1 := HR5.out.frozen 0
                   have e2 := HR5.out.lt
                   obtain ⟨ng, cap, e9, -⟩ := own_form hown5 (by omega)
                   subst e9
                   have HR7 := Lib.hid (HR5.out.set 0 (.slice (some ⟨ng, 0, none⟩) (j + 1) cap))
                   have HO7 := Lib.hid (own_far HO5.out (p := ⟨gi, 0, none⟩) (fun e => by have h1 := own_base HO5.out e; simp only at h1; omega) (.slice (some ⟨ng, 0, none⟩) (j + 1) cap))
                   have HB7 := Lib.hid (HB5.out.setCell (p := ⟨gi, 0, none⟩) (Nat.le_refl _) (.slice (some ⟨ng, 0, none⟩) (j + 1) cap))
                   clear hown5 hg5)
      go_roundw
      case rel => exact ⟨j + 1, _, hjl, by go_num, HR7.out, by rw [HTJ.out]; exact HO7.out, HB7.out⟩
      case measure => simp [intOf]; omega
end
section
open Go.RowKit Go.Sort

def colsK (us ks : List Nat) (k : Nat) : List Nat := (List.range k).filter fun i => decide (us.getD i 0 ∈ ks)
theorem colsK_yes {us ks : List Nat} {k : Nat} (h : k < us.length) (hm : us[k] ∈ ks) : colsK us ks (k + 1) = colsK us ks k ++ [k] := by
  have := colsF_succ us ks k h
  rw [if_pos hm] at this
  exact this
theorem colsK_no {us ks : List Nat} {k : Nat} (h : k < us.length) (hm : us[k] ∉ ks) : colsK us ks (k + 1) = colsK us ks k := by
  have := colsF_succ us ks k h
  rw [if_neg hm, List.append_nil] at this
  exact this
theorem colsK_len (us ks : List Nat) (k : Nat) : (colsK us ks k).length ≤ k := by
  unfold colsK
  exact Nat.le_trans (List.length_filter_le _ _) (by rw [List.length_range]; exact Nat.le_refl _)
def RefN (lo : Nat) (w : World) (v : Value) (vs : List Int) (P : List RL.R) : Prop := ∃ VA VC PA PC, v = .agg #[.slice VA vs.length VC, .slice PA P.length PC] ∧ vs.length ≤ VC ∧ VC ≤ 9223372036854775807 ∧ P.length ≤ PC ∧ PC ≤ 9223372036854775807 ∧
  ∀ W : World, (∀ p : Addr, lo ≤ p.block → p.block < w.heap.size → W.cell? p = w.cell? p) → SlI .i64 w.heap.size W VA vs ∧ SlRs w.heap.size W PA P
theorem sl_own_keep {w : World} {base : Nat} {e : TypeId} {A : Option Addr} {C n m : Nat} {xs : List Value} (h : w.ownsRow base e 1 (.slice A n C) m xs) (W : World) (hag : ∀ p : Addr, base ≤ p.block → p.block < w.heap.size → W.cell? p = w.cell? p) : Sl w.heap.size W A xs := by
  obtain ⟨A', C', e1, -, -, hs⟩ := Sl.of_own h
  injection e1 with e2 _ _
  subst e2
  intro hne
  obtain ⟨b, o, e3, hb, hc⟩ := hs hne
  have h1 := own_base h (k := b) (by rw [e3]; rfl)
  exact ⟨b, o, e3, hb, fun i u hu => (hag ⟨b, o + i, none⟩ h1 hb).trans (hc i u hu)⟩
def ProjRP (a : At) (ks : List Nat) (w : World) (e : Ending) (w' : World) : Prop := ∃ v, e = .returned v ∧ RefN w.heap.size w' v ((projA a fun v => decide (v ∈ ks)).vs.map Int.ofNat) (projA a fun v => decide (v ∈ ks)).P ∧ Below w.heap.size w w'

set_option maxHeartbeats 16000000 in
theorem r36Project_any (va : Value) (a : At) (M : Nat) (ks : List Nat) (w : World) (ha : RefV w va (a.vs.map Int.ofNat) a.P) (ga : Gd a) (hbit : ∀ v ∈ a.vs, M / 2 ^ v % 2 = if v ∈ ks then 1 else 0) :
    Calls Tryz.prog 19 #[va, .int .u32 (M : Nat)] w (ProjRP a ks w) := by
  obtain ⟨us, P⟩ := a
  obtain ⟨VA, VC, PA, PC, rfl, c1, c2, c3, c4, hv, hP⟩ := ha
  simp only [List.length_map] at *
  have hul : us.length ≤ 32 := ga.vl
  have HPC := Lib.hid (projA_cols ga ks)
  obtain ⟨W0, hW0⟩ : ∃ W0, W0 = w.alloc (.cells #[.slice VA us.length VC, .slice PA P.length PC] 45) := ⟨_, rfl⟩
  obtain ⟨W1, hW1⟩ : ∃ W1, W1 = W0.alloc (.cells #[.slice none 0 0, .slice none 0 0] 45) := ⟨_, rfl⟩
  obtain ⟨W2, hW2⟩ : ∃ W2, W2 = W1.alloc (.cells #[.slice none 0 0, .slice none 0 0] 45) := ⟨_, rfl⟩
  have hz0 : W0.heap.size = w.heap.size + 1 := by rw [hW0]; simp
  have hz1 : W1.heap.size = w.heap.size + 1 + 1 := by rw [hW1, World.size_alloc, hz0]
  have hx2 : Ext w W2 := by rw [hW2, hW1, hW0]; exact (((Ext.refl w).alloc _).alloc _).alloc _
  have HR0 : Hid (Row W2 w.heap.size 45 [.slice VA us.length VC, .slice PA P.length PC]) := by show Row _ _ _ _; rw [hW2, hW1, hW0]; exact ((Row.new w 45 _).alloc _).alloc _
  have HR1 : Hid (Row W2 (w.heap.size + 1) 45 [.slice none 0 0, .slice none 0 0]) := by
    show Row _ _ _ _
    have h := (Row.new W0 45 [.slice none 0 0, .slice none 0 0]).alloc (.cells #[.slice none 0 0, .slice none 0 0] 45)
    rw [hz0] at h
    rw [hW2, hW1]; exact h
  obtain ⟨g, hg⟩ : ∃ g, g = w.heap.size + 1 + 1 := ⟨_, rfl⟩
  have HR2 : Hid (Row W2 g 45 [.slice none 0 0, .slice none 0 0]) := by
    show Row _ _ _ _
    have h := Row.new W1 45 [.slice none 0 0, .slice none 0 0]
    rw [hz1] at h
    rw [hW2, hg]; exact h
  have HZ : Hid (W2.heap.size = g + 1 ∧ g = w.heap.size + 2) := ⟨by rw [hW2, World.size_alloc, hz1, hg], by omega⟩
  have HWE : Hid (((w.alloc (.cells #[.slice VA us.length VC, .slice PA P.length PC] 45)).alloc (.cells #[.slice none 0 0, .slice none 0 0] 45)).alloc (.cells #[.slice none 0 0, .slice none 0 0] 45) = W2) := by show _ = _; rw [hW2, hW1, hW0]
  have HGE : Hid (w.heap.size + 1 + 1 = g) := hg.symm
  have HX2 := Lib.hid hx2
  have HV := Lib.hid hv
  have HP := Lib.hid hP
  have HGA := Lib.hid ga
  have HBI := Lib.hid hbit
  have HCA := Lib.hid (And.intro (And.intro c1 c2) (And.intro c3 c4))
  clear hv hP ga hbit hx2 hW0 hW1 hW2 hz0 hz1 hg c1 c2 c3 c4
  go_enter Tryz.func19, Tryz.ntmps19
  go_upto_region 2 with (fail)
  rw [HWE.out, HGE.out]
  clear HWE HGE
  go_wp2_with fail
  go_loopw [6, 7] (fun vc c wx => ∃ (k : Nat) (vo : Value), k ≤ us.length ∧ c = .int .i64 k ∧ Row wx g 45 [vo, .slice none 0 0] ∧ wx.ownsRow (g + 1) 3 1 vo (colsK us ks k).length ((colsK us ks k).map fun i : Nat => Value.int .i64 (us.getD i 0 : Nat)) ∧
    wx.ownsRow (g + 1) 3 1 vc (colsK us ks k).length ((colsK us ks k).map fun i : Nat => Value.int .i64 (i : Nat)) ∧ (∀ b, vo.ownBlock = some b → vc.ownBlock ≠ some b) ∧ Below g W2 wx) (fun _ c _ => us.length - (intOf c).toNat)
  case atStart => exact ⟨0, _, Nat.zero_le _, rfl, HR2.out, own_nil _ _ _ _, own_nil _ _ _ _, fun b h => (by cases h), Below.refl _ _⟩
  case round =>
    obtain ⟨k, vo, hk, rfl, hrow, hown, howc, hne, hbw⟩ := hrel
    have HROW := Lib.hid hrow
    have HO := Lib.hid hown
    have HOC := Lib.hid howc
    have HNE := Lib.hid hne
    have HB := Lib.hid hbw
    have HBA : Hid (Below w.heap.size w wr) := by
      have h1 := hbw.mono (show w.heap.size ≤ g by have := HZ.out.2; omega)
      exact Below.trans HX2.out.below h1
    have hr0 := HR0.out.below hbw (show w.heap.size < g by have := HZ.out.2; omega)
    have hr1 := HR1.out.below hbw (show w.heap.size + 1 < g by have := HZ.out.2; omega)
    have p0 : wr.cell? ⟨w.heap.size, 0, none⟩ = some (.slice VA us.length VC) := hr0.cell 0
    have p1 : wr.cell? ⟨w.heap.size, 1, none⟩ = some (.slice PA P.length PC) := hr0.cell 1
    have p2 := hr0.lt
    have q0 : wr.cell? ⟨g, 0, none⟩ = some vo := hrow.cell 0
    have q1 : wr.cell? ⟨g, 1, none⟩ = some (.slice none 0 0) := hrow.cell 1
    have q2 := hrow.lt
    have HRR1 := Lib.hid hr1
    have HRR0 := Lib.hid hr0
    clear hrow hown howc hne hbw hr0 hr1
    obtain ⟨vcc, hvcc⟩ : ∃ vcc, vcc = u6 := ⟨_, rfl⟩
    subst hvcc
    by_cases hkl : k < us.length
    rotate_left
    · obtain rfl : k = us.length := by omega
      have r1 : ¬ (us.length : Int) < (us.length : Int) := by omega
      have hle : colsK us ks us.length = colsF us ks := rfl
      rw [hle] at HO HOC
      have hci : (colsI us ks).length = (colsF us ks).length := by unfold colsI; rw [List.length_map]
      obtain ⟨NA, NC, e1, -, -, -⟩ := Sl.of_own HO.out
      rw [List.length_map] at e1
      subst e1
      obtain ⟨CA, CC, e2, -, -, -⟩ := Sl.of_own HOC.out
      rw [List.length_map] at e2
      subst e2
      have hcs : SlI .i64 wr.heap.size wr CA (colsI us ks) := slI_own HOC.out
      have hcl : (colsF us ks).length ≤ us.length := by unfold colsF; exact Nat.le_trans (List.length_filter_le _ _) (by rw [List.length_range]; exact Nat.le_refl _)
      have HRP := Lib.hid (r7Project_P PA CA PC CC P (colsI us ks) wr (HP.out.upB HBA.out) hcs (Nat.le_trans HGA.out.many (by omega)) (by omega) HGA.out.rsOk (fun x hx c hc => by
        unfold colsI at hc
        obtain ⟨i, hi, rfl⟩ := List.mem_map.1 hc
        have h1 := colsF_lt us ks i hi
        have h2 : x.length = us.length := HGA.out.len x hx
        exact ⟨Int.natCast_nonneg _, by show ((i : Nat) : Int) < _; omega⟩))
      rw [hci] at HRP
      have hcap := own_cap HO.out
      have HNC := Lib.hid hcap
      have HPV : Hid ((projA (⟨us, P⟩ : At) fun v => decide (v ∈ ks)).vs = (colsF us ks).map fun i => us.getD i 0) := HPC.out.1
      have HPP : Hid ((projA (⟨us, P⟩ : At) fun v => decide (v ∈ ks)).P = RL.ofF (P.map fun x => projF x (colsI us ks))) := HPC.out.2
      clear hle hci hcs hcl hcap HPC
      generalize hn : (colsF us ks).length = n at *
      have HN := Lib.hid hn
      clear hn
      go_wp2_with fail
      refine HRP.out.mono ?_
      rintro e w2 ⟨v2, rfl, ⟨A2, C2, rfl, k1, k2, hs2⟩, hb2⟩
      have HR9 := Lib.hid (HROW.out.up hb2)
      have HR8 := Lib.hid (HRR1.out.up hb2)
      have HO2 := Lib.hid (own_keep HO.out hb2)
      have HKK := Lib.hid (And.intro k1 k2)
      have HS2 := Lib.hid hs2
      have HB2 := Lib.hid (Below.then HBA.out hb2 HBA.out.size)
      have HZ2 : Hid (wr.heap.size ≤ w2.heap.size ∧ g < wr.heap.size) := ⟨hb2.size, q2⟩
      have m0 : w2.cell? ⟨g, 0, none⟩ = some (.slice NA n NC) := HR9.out.cell 0
      have m1 : w2.cell? ⟨g, 1, none⟩ = some (.slice none 0 0) := HR9.out.cell 1
      have m2 := HR9.out.frozen 1
      have m3 := HR9.out.lt
      have n0 : w2.cell? ⟨w.heap.size + 1, 0, none⟩ = some (.slice none 0 0) := HR8.out.cell 0
      have n1 : w2.cell? ⟨w.heap.size + 1, 1, none⟩ = some (.slice none 0 0) := HR8.out.cell 1
      have n2 := HR8.out.frozen 0
      have n3 := HR8.out.frozen 1
      have n4 := HR8.out.lt
      have hgr : ¬ g = w.heap.size + 1 := by have := HZ.out.2; omega
      have hgr2 : ¬ w.heap.size + 1 = g := by have := HZ.out.2; omega
      clear hb2 k1 k2 hs2 HRP p0 p1 p2 q0 q1 q2
      generalize hY : RL.ofF (P.map (projF · (colsI us ks))) = Y at *
      have HY := Lib.hid hY
      clear hY
      go_wp2_with fail
      obtain ⟨V6, hV6⟩ : ∃ V', V' = ((w2.setCell ⟨g, 1, none⟩ (.slice A2 Y.length C2)).setCell ⟨w.heap.size + 1, 0, none⟩ (.slice NA n NC)).setCell ⟨w.heap.size + 1, 1, none⟩ (.slice A2 Y.length C2) := ⟨_, rfl⟩
      rw [← hV6]
      have q : Row V6 (w.heap.size + 1) 45 [.slice NA n NC, .slice A2 Y.length C2] := by rw [hV6]; exact ((HR8.out.far (p := ⟨g, 1, none⟩) (by show w.heap.size + 1 ≠ g; omega) _).set 0 _).set 1 _
      have f0 := q.cell 0
      have f1 := q.cell 1
      have hcell : ∀ p : Addr, p.block ≠ w.heap.size + 1 → p.block ≠ g → V6.cell? p = w2.cell? p := fun p hp hp2 => by
        rw [hV6, World.cell?_setCell_other _ _ _ _ (fun e => hp (by rw [← e])), World.cell?_setCell_other _ _ _ _ (fun e => hp (by rw [← e])), World.cell?_setCell_other _ _ _ _ (fun e => hp2 (by rw [← e]))]
      have hsz : V6.heap.size = w2.heap.size := by rw [hV6]; simp
      have ho6 : V6.ownsRow (g + 1) 3 1 (.slice NA n NC) n ((colsF us ks).map fun i : Nat => Value.int .i64 (us.getD i 0 : Nat)) := by
        have hne1 : ∀ b, (Value.slice NA n NC).ownBlock = some b → b ≠ g ∧ b ≠ w.heap.size + 1 := fun b hb => by have := own_base HO2.out hb; have := HZ.out.2; omega
        rw [hV6]
        exact own_far (own_far (own_far HO2.out (p := ⟨g, 1, none⟩) (fun e => (hne1 _ e).1 rfl) _) (p := ⟨w.heap.size + 1, 0, none⟩) (fun e => (hne1 _ e).2 rfl) _) (p := ⟨w.heap.size + 1, 1, none⟩) (fun e => (hne1 _ e).2 rfl) _
      have hsv : ∀ W : World, (∀ p : Addr, w.heap.size ≤ p.block → p.block < V6.heap.size → W.cell? p = V6.cell? p) → SlI .i64 V6.heap.size W NA (((colsF us ks).map fun i => us.getD i 0).map Int.ofNat) := fun W hag => by
        show Sl _ _ _ _
        rw [List.map_map, List.map_map]
        exact sl_own_keep ho6 W fun p h1 h2 => hag p (by have := HZ.out.2; omega) h2
      refine bodyPost_ret (v := .agg #[.slice NA n NC, .slice A2 Y.length C2]) (by simp [results, Tryz.results19, go_sem, f0, f1]) rfl ?_
      unfold ProjRP
      rw [HPV.out, HPP.out]
      refine ⟨_, rfl, ⟨NA, NC, A2, C2, ?_, ?_, HNC.out.2, HKK.out.1, HKK.out.2, fun W hag => ⟨hsv W hag, ?_⟩⟩, ?_⟩
      · rw [List.length_map, List.length_map, HN.out]
      · rw [List.length_map, List.length_map, HN.out]; exact HNC.out.1
      · rw [hsz]
        exact (HS2.out.keep fun p h1 h2 => (hag p (by have := HZ2.out; have := HZ.out; omega) (by rw [hsz]; exact h1)).trans (hcell p (by have := HZ2.out; have := HZ.out; omega) (by have := HZ2.out; omega))).sl
      · rw [hV6]
        exact ((HB2.out.setCell (p := ⟨g, 1, none⟩) (by have := HZ.out.2; show w.heap.size ≤ g; omega) _).setCell (p := ⟨w.heap.size + 1, 0, none⟩) (by show w.heap.size ≤ w.heap.size + 1; omega) _).setCell (p := ⟨w.heap.size + 1, 1, none⟩) (by show w.heap.size ≤ w.heap.size + 1; omega) _
    have r0 : (0 : Int) ≤ (k : Int) := by omega
    have r1 : (k : Int) < (us.length : Int) := by omega
    have r3 : IntKind.i64.wrap ((k : Int) + 1) = ((k + 1 : Nat) : Int) := by rw [IntWalk.i64_in _ (by omega)]; omega
    obtain ⟨vb, vj, hva, hvb, vc⟩ := slI_at HV.out (i := k) (by rw [List.length_map]; exact hkl)
    subst hva
    have vc := (HBA.out.cell (p := ⟨vb, vj + k, none⟩) hvb).trans vc
    rw [List.getElem_map] at vc
    change wr.cell? ⟨vb, vj + k, none⟩ = some (.int .i64 (us[k] : Nat)) at vc
    have hvb2 : vb < wr.heap.size := Nat.lt_of_lt_of_le hvb HBA.out.size
    have hv32 := HGA.out.lt _ (List.getElem_mem hkl)
    have hbt := HBI.out _ (List.getElem_mem hkl)
    have HYES : Hid (us[k] ∈ ks → colsK us ks (k + 1) = colsK us ks k ++ [k]) := fun h => colsK_yes hkl h
    have HNO : Hid (us[k] ∉ ks → colsK us ks (k + 1) = colsK us ks k) := fun h => colsK_no hkl h
    have HGET : Hid (us.getD k 0 = us[k]) := by show _ = _; simp [hkl]
    generalize us[k] = v at *
    have s0 : (0 : Int) ≤ (v : Int) := by omega
    have s1 : (v : Int) ≤ 32 := by omega
    by_cases hm : v ∈ ks
    rotate_left
    · rw [if_neg hm] at hbt
      have hq : (((M : Int) / 2 ^ v).tmod 2 == 1) = false := by
        rw [bit_eq, hbt]; rfl
      have HN := Lib.hid (HNO.out hm)
      clear hbt hm HYES HNO
      go_wp2_with fail
      go_roundw
      case rel => exact ⟨k + 1, vo, hkl, by go_num, HROW.out, by rw [HN.out]; exact HO.out, by rw [HN.out]; exact HOC.out, HNE.out, HB.out⟩
      case measure => simp [intOf]; omega
    rw [if_pos hm] at hbt
    have hq : (((M : Int) / 2 ^ v).tmod 2 == 1) = true := by
      rw [bit_eq, hbt]; rfl
    have HY := Lib.hid (HYES.out hm)
    clear hbt hm HYES HNO
    have HLK : Hid ((colsK us ks k).length ≤ 1000) := Nat.le_trans (colsK_len _ _ _) (by omega)
    generalize colsK us ks k = cs at *
    obtain ⟨l, hl⟩ : ∃ l : List Nat, l = cs.map fun i => us.getD i 0 := ⟨_, rfl⟩
    have HOL : Hid (wr.ownsRow (g + 1) 3 1 vo l.length (l.map fun z : Nat => Value.int .i64 (z : Int))) := by
      show World.ownsRow _ _ _ _ _ _ _
      rw [hl, List.map_map, List.length_map]
      exact HO.out
    have HLL : Hid (l.length ≤ 1000000 ∧ l.length = cs.length) := ⟨by rw [hl, List.length_map]; have := HLK.out; omega, by rw [hl, List.length_map]⟩
    have HLE : Hid ((l ++ [v]).map (fun z : Nat => Value.int .i64 (z : Int)) = (cs ++ [k]).map fun i : Nat => Value.int .i64 (us.getD i 0 : Nat)) := by
      show _ = _
      rw [hl, List.map_append, List.map_append, List.map_map]
      have : ([k].map fun i : Nat => Value.int .i64 (us.getD i 0 : Nat)) = [v].map fun z : Nat => Value.int .i64 (z : Int) := by
        simp only [List.map_cons, List.map_nil]
        rw [HGET.out]
      rw [this]
      rfl
    have HOB : Hid (∀ j, vo.ownBlock = some j → g + 1 ≤ j) := fun j hj => own_base HO.out hj
    have HLT : Hid (w.heap.size < g ∧ vb < g ∧ g < wr.heap.size) := ⟨by have := HZ.out.2; omega, by have := HZ.out.2; omega, q2⟩
    clear hl HO
    go_upto_region 7 with (fail)
    refine regionZ (S := (fun w' => w'.cell? ⟨g, 0, none⟩ = some vo ∧ w'.cell? ⟨w.heap.size, 0, none⟩ = some (.slice (some ⟨vb, vj, none⟩) us.length VC) ∧ w'.cell? ⟨vb, vj + k, none⟩ = some (.int .i64 (v : Nat)))) 10 (by kernel_rfl) ⟨q0, p0, vc⟩ (fun hHeld => ?_)
    refine takeZ (i := 0) (v := ?_) (some 25) rfl rfl (by kernel_rfl) (by decide) (by kernel_rfl) (by kernel_rfl) (by kernel_rfl) (by kernel_rfl) (fun _ _ _ h => h) (Or.inl ⟨by rfl, ?_⟩) (by assumption) ?_
    rotate_left 1
    · (intro w0 hSw; (try dsimp only at hSw); go_simp; try (with_reducible rfl))
    try simp only [Act.put, List.setIfInBounds_toArray, List.set_cons_succ, List.set_cons_zero]
    refine takeZ (i := 1) (v := ?_) (some 26) rfl rfl (by kernel_rfl) (by decide) (by kernel_rfl) (by kernel_rfl) (by kernel_rfl) (by kernel_rfl) (fun _ _ _ h => h) (Or.inl ⟨by rfl, ?_⟩) (by assumption) ?_
    rotate_left 1
    · (intro w0 hSw; (try dsimp only at hSw); go_simp; try (with_reducible rfl))
    try simp only [Act.put, List.setIfInBounds_toArray, List.set_cons_succ, List.set_cons_zero]
    refine takeZ (i := 2) (v := ?_) (some 27) rfl rfl (by kernel_rfl) (by decide) (by kernel_rfl) (by kernel_rfl) (by kernel_rfl) (by kernel_rfl) (fun _ _ _ h => h) (Or.inl ⟨by rfl, ?_⟩) (by assumption) ?_
    rotate_left 1
    · (intro w0 hSw; (try dsimp only at hSw); go_simp; try (with_reducible rfl))
    try simp only [Act.put, List.setIfInBounds_toArray, List.set_cons_succ, List.set_cons_zero]
    refine takeZ (i := 3) (v := ?_) (some 28) rfl rfl (by kernel_rfl) (by decide) (by kernel_rfl) (by kernel_rfl) (by kernel_rfl) (by kernel_rfl) (fun _ _ _ h => h) (Or.inl ⟨by rfl, ?_⟩) (by assumption) ?_
    rotate_left 1
    · (intro w0 hSw; (try dsimp only at hSw); go_simp; try (with_reducible rfl))
    try simp only [Act.put, List.setIfInBounds_toArray, List.set_cons_succ, List.set_cons_zero]
    refine takeZ (i := 4) (v := ?_) (some 29) rfl rfl (by kernel_rfl) (by decide) (by kernel_rfl) (by kernel_rfl) (by kernel_rfl) (by kernel_rfl) (fun _ _ _ h => h) (Or.inl ⟨by rfl, ?_⟩) (by assumption) ?_
    rotate_left 1
    · (intro w0 hSw; (try dsimp only at hSw); go_simp; try (with_reducible rfl))
    try simp only [Act.put, List.setIfInBounds_toArray, List.set_cons_succ, List.set_cons_zero]
    refine takeZ (i := 5) (v := ?_) (some 30) rfl rfl (by kernel_rfl) (by decide) (by kernel_rfl) (by kernel_rfl) (by kernel_rfl) (by kernel_rfl) (fun _ _ _ h => h) (Or.inl ⟨by rfl, ?_⟩) (by assumption) ?_
    rotate_left 1
    · (intro w0 hSw; (try dsimp only at hSw); go_simp; try (with_reducible rfl))
    try simp only [Act.put, List.setIfInBounds_toArray, List.set_cons_succ, List.set_cons_zero]
    refine takeZ (i := 6) (v := ?_) (some 31) rfl rfl (by kernel_rfl) (by decide) (by kernel_rfl) (by kernel_rfl) (by kernel_rfl) (by kernel_rfl) (fun _ _ _ h => h) (Or.inl ⟨by rfl, ?_⟩) (by assumption) ?_
    rotate_left 1
    · (intro w0 hSw; (try dsimp only at hSw); go_simp; try (with_reducible rfl))
    try simp only [Act.put, List.setIfInBounds_toArray, List.set_cons_succ, List.set_cons_zero]
    refine oneZ (i := 7) (by kernel_rfl) rfl (by decide) (fun K hK => ?_)
    go_simp
    have hxa : Ext wr ((wr.alloc (.cells #[.int .i64 (v : Nat)] 3)).drew) := ((Ext.refl wr).alloc _).drew
    have KEEP := (⟨(hxa.cell q2).trans q0, (hxa.cell p2).trans p0, (hxa.cell hvb2).trans vc⟩ : _ ∧ _ ∧ _)
    clear hxa
    refine hK.out _ _ KEEP (fun hHeld => ?_)
    clear hK K
    try simp only [Act.put, List.setIfInBounds_toArray, List.set_cons_succ, List.set_cons_zero]
    refine oneZ (i := 8) (by kernel_rfl) rfl (by decide) (fun K hK => ?_)
    refine stepI (w := (wr.alloc (.cells #[.int .i64 (v : Nat)] 3)).drew) rfl (.tmp 26) (.tmp 32) rfl (g + 1) vo l (by simp [Act.eval]) (own_keep HOL.out (((Ext.refl wr).alloc _).drew).below) wr.heap.size v (by simp [Act.eval]) (Row.new wr 3 [.int .i64 (v : Nat)]) HLL.out.1 (by have := HLT.out; simp; omega) ?_
    intro ng cap w2 hown2 hg2 hat2
    have hzz : wr.heap.size ≤ ((wr.alloc (.cells #[.int .i64 (v : Nat)] 3)).drew).heap.size := by simp
    have hlt := HLT.out
    have KEEP2 : w2.cell? ⟨g, 0, none⟩ = some vo ∧ w2.cell? ⟨w.heap.size, 0, none⟩ = some (.slice (some ⟨vb, vj, none⟩) us.length VC) ∧ w2.cell? ⟨vb, vj + k, none⟩ = some (.int .i64 (v : Nat)) := by
      refine ⟨(grown_cell hg2 (p := ⟨g, 0, none⟩) (Nat.lt_of_lt_of_le q2 hzz) (fun e => by have := HOB.out _ e.symm; simp only at this; omega)).trans KEEP.1, (grown_cell hg2 (p := ⟨w.heap.size, 0, none⟩) (Nat.lt_of_lt_of_le p2 hzz) (fun e => by have := HOB.out _ e.symm; simp only at this; omega)).trans KEEP.2.1, (grown_cell hg2 (p := ⟨vb, vj + k, none⟩) (Nat.lt_of_lt_of_le hvb2 hzz) (fun e => by have := HOB.out _ e.symm; simp only at this; omega)).trans KEEP.2.2⟩
    have HR2 : Hid (Row w2 g 45 [vo, .slice none 0 0]) :=
      ((HROW.out.alloc (.cells #[.int .i64 (v : Nat)] 3)).drew).grown hg2 (fun e => by have := HOB.out _ e.symm; omega)
    have HO2 := Lib.hid hown2
    have HOC2 : Hid (w2.ownsRow (g + 1) 3 1 vcc cs.length (cs.map fun i : Nat => Value.int .i64 (i : Nat))) := own_grown (own_keep HOC.out (((Ext.refl wr).alloc _).drew).below) hg2 (fun b hb e => HNE.out b e.symm hb)
    have HNE2 : Hid (∀ b, vcc.ownBlock = some b → b ≠ ng ∧ b < wr.heap.size) := fun b hb => ⟨fun e => by
      have h1 := own_lt HOC.out b hb
      rcases hat2 with h2 | h2
      · exact HNE.out ng h2 (by rw [← e]; exact hb)
      · simp at h2; omega, own_lt HOC.out b hb⟩
    have HNGL : Hid (ng < w2.heap.size) := own_lt hown2 ng rfl
    have HB2' : Hid (Below g W2 w2) := ((HB.out.alloc (by have := HB.out.size; have := HZ.out.1; omega) (.cells #[.int .i64 (v : Nat)] 3)).drew).grown hg2 (by simp; omega) (fun j hj => by have := HOB.out j hj; omega)
    have u0 := HR2.out.frozen 0
    have u1 := HR2.out.lt
    have u2 := KEEP2.1
    clear hown2 hg2 hat2 hzz hlt
    refine hK.out _ _ KEEP2 (fun hHeld => ?_)
    clear hK K
    try simp only [Act.put, List.setIfInBounds_toArray, List.set_cons_succ, List.set_cons_zero]
    refine takeZ (i := 9) (v := ?_) (some 34) rfl rfl (by kernel_rfl) (by decide) (by kernel_rfl) (by kernel_rfl) (by kernel_rfl) (by kernel_rfl) (fun _ _ _ h => h) (Or.inl ⟨by rfl, ?_⟩) (by assumption) ?_
    rotate_left 1
    · (intro w0 hSw; (try dsimp only at hSw); go_simp; try (with_reducible rfl))
    try simp only [Act.put, List.setIfInBounds_toArray, List.set_cons_succ, List.set_cons_zero]
    refine lastZ (by kernel_rfl) rfl (by kernel_rfl) (fun K hK => ?_)
    go_simp
    go_wp2_with fail
    refine hK.out _ _ ?_
    clear hK K
    try simp only [Act.put, List.setIfInBounds_toArray, List.set_cons_succ, List.set_cons_zero]
    obtain ⟨vn, hvn⟩ : ∃ vn, vn = Value.slice (some ⟨ng, 0, none⟩) (l.length + 1) cap := ⟨_, rfl⟩
    obtain ⟨W3, hW3⟩ : ∃ W3, W3 = w2.setCell ⟨g, 0, none⟩ vn := ⟨_, rfl⟩
    rw [← hvn, ← hW3]
    have HR3 : Hid (Row W3 g 45 [vn, .slice none 0 0]) := by rw [hW3]; exact HR2.out.set 0 vn
    have HO3 : Hid (W3.ownsRow (g + 1) 3 1 vn (l.length + 1) ((l ++ [v]).map fun z : Nat => Value.int .i64 (z : Int))) := by
      rw [hW3, hvn]
      exact own_far HO2.out (p := ⟨g, 0, none⟩) (fun e => by have h1 := own_base HO2.out e; simp only at h1; omega) _
    have HOC3 : Hid (W3.ownsRow (g + 1) 3 1 vcc cs.length (cs.map fun i : Nat => Value.int .i64 (i : Nat))) := by
      rw [hW3]
      exact own_far HOC2.out (p := ⟨g, 0, none⟩) (fun e => by have h1 := own_base HOC2.out e; simp only at h1; omega) _
    have HB3 : Hid (Below g W2 W3) := by rw [hW3]; exact HB2'.out.setCell (p := ⟨g, 0, none⟩) (Nat.le_refl _) _
    have HZ3 : Hid (W3.heap.size = w2.heap.size) := by show _ = _; rw [hW3]; simp
    have HVN : Hid (∀ b, vn.ownBlock = some b → b = ng) := fun b hb => by rw [hvn] at hb; injection hb with hb; exact hb.symm
    clear hHeld hW3 hvn HO2 HOC2 HB2' HR2 HROW HOL u0 u1 u2 KEEP KEEP2 q0 q1 q2 p0 p1 p2 vc
    have HOA : Hid (∀ o : Obj, (W3.alloc o).ownsRow (g + 1) 3 1 vcc cs.length (cs.map fun i : Nat => Value.int .i64 (i : Nat))) := fun o => own_keep HOC3.out ((Ext.refl W3).alloc o).below
    have HVA : Hid (∀ o : Obj, (W3.alloc o).ownsRow (g + 1) 3 1 vn (l.length + 1) ((l ++ [v]).map fun z : Nat => Value.int .i64 (z : Int))) := fun o => own_keep HO3.out ((Ext.refl W3).alloc o).below
    have HRA : Hid (∀ o : Obj, Row (W3.alloc o) g 45 [vn, .slice none 0 0]) := fun o => HR3.out.alloc o
    have HGL : Hid (g + 1 ≤ W3.heap.size) := HR3.out.lt
    have HBA3 : Hid (∀ o : Obj, Below g W2 (W3.alloc o)) := fun o => Below.then HB3.out ((Ext.refl W3).alloc o).below (by have := HGL.out; omega)
    have HBZ : Hid (∀ o : Obj, g + 1 ≤ (W3.alloc o).heap.size) := fun o => Nat.le_trans HGL.out ((Ext.refl W3).alloc o).size
    have HRN := Lib.hid (Row.new W3 3 [.int .i64 (k : Nat)])
    go_wp2_with (at_builtin; go_loud (refine app1Int rfl (.tmp 35) (.tmp 37) rfl (g + 1) vcc cs.length (cs.map fun i : Nat => Value.int .i64 (i : Nat)) rfl (HOA.out _) W3.heap.size [.int .i64 (k : Nat)] rfl HRN.out rfl (by simp [Value.oneCell']) (by have := HLK.out; omega) (HBZ.out _) ?_)
                 intro v5 w5 hown5 hg5 hb5
                 have HO5 := Lib.hid hown5
                 have HR5 : Hid (Row w5 g 45 [vn, .slice none 0 0]) := (HRA.out _).grown hg5 (fun e => by have := own_base (HOA.out (.cells #[.int .i64 (k : Nat)] 3)) e.symm; omega)
                 have HV5 : Hid (w5.ownsRow (g + 1) 3 1 vn (l.length + 1) ((l ++ [v]).map fun z : Nat => Value.int .i64 (z : Int))) := own_grown (HVA.out _) hg5 (fun b hb e => (HNE2.out b e.symm).1 (HVN.out b hb))
                 have HNE5 : Hid (∀ b, vn.ownBlock = some b → v5.ownBlock ≠ some b) := fun b hb e => by
                   have h1 := HVN.out b hb
                   rcases hb5 b e with h2 | h2
                   · exact (HNE2.out b h2).1 h1
                   · have := HNGL.out; have := HZ3.out; have := ((Ext.refl W3).alloc (.cells #[.int .i64 (k : Nat)] 3)).size; omega
                 have HB5 : Hid (Below g W2 w5) := (HBA3.out _).grown hg5 (by have := HBZ.out (.cells #[.int .i64 (k : Nat)] 3); omega) (fun j hj => by have := own_base (HOA.out (.cells #[.int .i64 (k : Nat)] 3)) hj; omega)
                 clear hown5 hg5 hb5)
    go_roundw
    case rel => exact ⟨k + 1, vn, hkl, by go_num, HR5.out, by rw [HY.out, ← HLE.out, List.length_append, List.length_singleton, ← HLL.out.2]; exact HV5.out, by rw [HY.out, List.map_append, List.length_append]; exact HO5.out, HNE5.out, HB5.out⟩
    case measure => simp [intOf]; omega
end
section
open Go.RowKit Go.Sort

theorem eq3 (W : World) (a b c : Int) : (Op.equalIn 10000 76 (.agg #[.int .i64 a, .int .i64 b, .int .i64 c]) (.agg #[.int .i64 a, .int .i64 b, .int .i64 c])).run Tryz.prog W = .ok true W := by
  obtain ⟨i0, hi0⟩ : ∃ i, Tryz.prog.info? 2 = some i := Option.isSome_iff_exists.1 (by kernel_rfl)
  rw [run_equalIn_array W 9999 _ _ Tryz.underlying76 hi0]
  have hc : Tryz.prog.cellsOf 2 = 1 := by kernel_rfl
  have he : ∀ (x : Int) (V : World), (Op.equalIn 9999 2 (.int .i64 x) (.int .i64 x)).run Tryz.prog V = .ok true V := fun x V => by rw [run_equalIn_int V 9998 2 .i64 .i64 x x Tryz.underlying2]; simp
  simp [Op.eqItems, List.range_succ, part, go_sem, hc, he]
end
end Go.Proofs.YthgaflmldbgbnaaGreatDoor

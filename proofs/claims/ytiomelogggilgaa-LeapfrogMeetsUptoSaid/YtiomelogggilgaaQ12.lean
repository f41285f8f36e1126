/- Parts of the proof, merged: Y27, Y31, Y32, Y33, Y28, Y34, Y35, Y36. -/
import Derived.Test.YtiomelogggilgaaQ11
import Derived.Test.YtiomelogggilgaaQ10
import Derived.Test.YtiomelogggilgaaQ9
import Derived.Deep.Slices

section
/- Walk: Made of chapter 35's laws. -/
namespace Go.Proofs.Ytiomelogggilgaa
open Go.RowKit Go.Sort

/-- What Made leaves. -/
def MadeP (w : World) (l : List LA) (e : Ending) (w' : World) : Prop :=
  ((∀ a ∈ l, a.Ok) → ∃ A1 C1 A2 C2 A3 C3, e = .returned (.tuple #[.slice A1 l.length C1, .slice A2 l.length C2, .slice A3 l.length C3, .bool (decide (l.length ≤ 6))]) ∧ l.length ≤ C1 ∧ C1 ≤ 9223372036854775807 ∧ l.length ≤ C2 ∧ C2 ≤ 9223372036854775807 ∧ l.length ≤ C3 ∧ C3 ≤ 9223372036854775807 ∧ AtsM w'.heap.size w' A1 (l.map LA.ra) ∧ AtsR w'.heap.size w' A2 (l.map LA.ra) ∧ SlI .i64 w'.heap.size w' A3 (l.map fun a => (a.d : Int))) ∧
  ((¬ ∀ a ∈ l, a.Ok) → e = .returned (.tuple #[.slice none 0 0, .slice none 0 0, .slice none 0 0, .bool false])) ∧ Below w.heap.size w w'
/-- The loop of Made: the first i atoms are made. -/
def MadeS (w : World) (l : List LA) (vo vm va c : Value) (wr : World) : Prop :=
  ∃ i : Nat, i ≤ l.length ∧ c = .int .i64 i ∧ (∀ a ∈ l.take i, a.Ok) ∧ (∃ Z : List (RA × HM), Z.map Prod.fst = (l.take i).map LA.ra ∧ MadeI w.heap.size wr Z vo vm va) ∧ Below w.heap.size w wr
theorem bit_eq (v k : Nat) : ((v : Int) / 2 ^ k).tmod 2 = ((v / 2 ^ k % 2 : Nat) : Int) := by
  have h : (v : Int) / 2 ^ k = ((v / 2 ^ k : Nat) : Int) := by
    rw [Int.natCast_ediv, Int.natCast_pow]
    rfl
  rw [h]
  rfl
theorem valI_valid (n : Nat) : RL.validV (valI n) = true := by
  unfold valI RL.validV
  have : (ByteArray.mk #[]).size = 0 := rfl
  simp [this]
theorem rowI_wrong (n : Nat) (t : List Nat) : wrongF n (rowI n t) = 0 := by
  unfold wrongF
  rw [rowI_len, if_neg (by simp), if_pos]
  unfold rowI
  rw [List.all_eq_true]
  intro v hv
  obtain ⟨k, _, rfl⟩ := List.mem_map.1 hv
  exact valI_valid _
theorem rowsI_err (n : Nat) (X : List (List Nat)) : errF n (X.map (rowI n)) = 0 := errF_zero.2 fun x hx => by
  obtain ⟨t, _, rfl⟩ := List.mem_map.1 hx
  exact rowI_wrong n t
theorem rowsI_ok {n : Nat} (hn : n ≤ 1000000) (X : List (List Nat)) : RsOk (X.map (rowI n)) := fun x hx => by
  obtain ⟨t, _, rfl⟩ := List.mem_map.1 hx
  refine ⟨by rw [rowI_len]; exact hn, fun v hv => ?_⟩
  unfold rowI at hv
  obtain ⟨k, _, rfl⟩ := List.mem_map.1 hv
  exact Nat.zero_le _
theorem tmod4 (x : Nat) : (x : Int).tmod 4 = ((x % 4 : Nat) : Int) := rfl
theorem ints_len (l : List Nat) : (ints l).length = l.length := by unfold ints; rw [List.length_map]
theorem own_one (w : World) (base : Nat) (T : TypeId) (u : Value) (hb : base ≤ w.heap.size) : (w.alloc (.cells #[u] T)).ownsRow base T 1 (.slice (some ⟨w.heap.size, 0, none⟩) 1 1) 1 [u] :=
  ⟨rfl, .inr ⟨w.heap.size, 1, #[u], rfl, hb, Row.new w T [u], Nat.le_refl _, by simp [maxLen], rfl, rfl⟩⟩
set_option maxRecDepth 4000 in
/-- append(l, src...) of ints. -/
theorem appIs {w : World} {ops : Array Oper} {rest : List Oper} {o : Oper} {a : Act} {Q : Exit → Act → World → Prop} (hgd : o.guard = none) (s x : Operand)
    (ho : o.op = .call { callee := .builtin .append, args := #[s, x], argTypes := #[25, 25] })
    (base : Nat) (v : Value) (n : Nat) (xs : List Value) (hs0 : a.eval s = v) (hown : w.ownsRow base 3 1 v n xs)
    (A : Option Addr) (m C : Nat) (z : List Int) (hm : z.length = m) (hx : a.eval x = .slice A m C) (hz : SlI .i64 w.heap.size w A z)
    (hn : n + m ≤ 1000000) (hbase : base ≤ w.heap.size)
    (h : ∀ v' w', w'.ownsRow base 3 1 v' (n + m) (xs ++ z.map (Value.int .i64)) → w.grownBy w' v.ownBlock → wpList Try.prog ops Q rest (a.put o.dst v') w') : wpList Try.prog ops Q (o :: rest) a w := by
  subst hm
  obtain ⟨i0, hi0, hz0, hz1, hz2⟩ := info_parts intInfo
  have hcell : ∀ ad, A = some ad → ∀ j u, (z.map (Value.int .i64))[j]? = some u → w.cell? (ad.add j) = some u := fun ad e j u hu => by
    obtain ⟨b, o, e', hb, hc⟩ := hz (by intro h0; rw [h0] at hu; simp at hu)
    rw [e] at e'
    injection e' with e'
    subst e'
    rw [Addr.add_lit]
    exact hc j u hu
  refine wpList_plain hgd fun K hK => ?_
  rcases A with _ | ad
  · have hy : z = [] := by
      refine Classical.byContradiction fun hne => ?_
      obtain ⟨b, o, e', hb, hc⟩ := hz (by simpa using hne)
      cases e'
    subst hy
    have hrun := run_append_none (P := Try.prog) w base 25 o.type 3 i0 1 Try.underlying25 hi0 v n xs hown C
    unfold Oper.wp execOp
    simp only [List.length_nil] at hx
    simp only [ho, resolve, invoke, builtin, Sem.run_bind, Sem.run_pure, Result.andThen_ok, List.map_toArray, List.map_cons, List.map_nil, hs0, hx, hrun]
    exact hK _ _ (h v w (by rw [List.map_nil, List.append_nil]; exact hown) ⟨rfl, rfl, rfl, Nat.le_refl _, fun _ _ _ => rfl⟩)
  · obtain ⟨v', w', hrun, k2, k3, _, k5⟩ := run_append_own_at (P := Try.prog) w base 25 o.type 3 i0 _ 1 8 Try.underlying25 hi0 hz0 hz1 hz2 rfl (by decide) v n xs hown ad z.length C (z.map (Value.int .i64)) (by simp) (hcell ad rfl) (by simp [Value.oneCell']) (by simp only [maxLen]; omega) (by omega) hbase
    unfold Oper.wp execOp
    simp only [ho, resolve, invoke, builtin, Sem.run_bind, Sem.run_pure, Result.andThen_ok, List.map_toArray, List.map_cons, List.map_nil, hs0, hx, hrun]
    exact hK _ _ (h v' w' k2 k3)
theorem grown_alloc {w w' : World} {o : Obj} {row : Option Nat} (h : (w.alloc o).grownBy w' row) : w.grownBy w' row := grown_trans (((Ext.refl w).alloc o).grown row) h
theorem MadeP.bad {w w' : World} {l : List LA} {a : LA} (ha : a ∈ l) (hn : ¬ a.Ok) (hb : Below w.heap.size w w') : MadeP w l (.returned (.tuple #[.slice none 0 0, .slice none 0 0, .slice none 0 0, .bool false])) w' :=
  ⟨fun h => absurd (h a ha) hn, fun _ => rfl, hb⟩

set_option maxHeartbeats 8000000 in
set_option maxRecDepth 100000 in
theorem l35Made_any (A : Option Addr) (C : Nat) (l : List LA) (w : World) (hA : AtsL w.heap.size w A l) (hB : LBytes l) (hl : l.length ≤ 3518437208780) :
    Calls Try.prog 10 #[.slice A l.length C] w (MadeP w l) := by
  have HA := Lib.hid hA
  have HBY := Lib.hid hB
  have HBAD := Lib.hid (fun (a : LA) (ha : a ∈ l) (hn : ¬ a.Ok) (w' : World) (hb : Below w.heap.size w w') => MadeP.bad ha hn hb)
  clear hA hB
  go_enter Try.func10, Try.ntmps10
  go_wp2
  go_loopw [6, 7, 8, 23] (MadeS w l) (fun _ _ _ c _ => l.length - (intOf c).toNat)
  case atStart => exact ⟨0, Nat.zero_le _, rfl, fun a ha => by simp at ha, ⟨[], rfl, MadeI.nil _ _⟩, Below.refl _ _⟩
  case round =>
    obtain ⟨i, hi, rfl, hall, ⟨Z, hZ, hM⟩, hb⟩ := hrel
    have HALL := Lib.hid hall
    have HZ := Lib.hid hZ
    have HM := Lib.hid hM
    have HB := Lib.hid hb
    have hzb := hb.size
    have HZL : Hid (Z.length = i) := by
      have := congrArg List.length hZ
      rw [List.length_map, List.length_map, List.length_take, Nat.min_eq_left hi] at this
      exact this
    clear hall hZ hM hb
    by_cases h1 : i < l.length
    rotate_left
    · obtain rfl : i = l.length := by omega
      obtain ⟨A1, C1, A2, C2, A3, C3, e1, e2, e3, c1, d1, c2, d2, c3, d3, ha, hr, hz⟩ := HM.out.fin
      have hT : l.take l.length = l := List.take_length
      have HZ2 := HZ.out
      have HALL2 := HALL.out
      rw [hT] at HZ2 HALL2
      rw [HZL.out] at e1 e2 e3 c1 c2 c3
      rw [HZ2] at ha hr
      have hz2 : SlI .i64 wr.heap.size wr A3 (l.map fun a => (a.d : Int)) := by
        have e : (Z.map fun z => z.1.ar) = l.map fun a => (a.d : Int) := by
          have := congrArg (List.map RA.ar) HZ2
          rw [List.map_map, List.map_map] at this
          exact this
        rw [← e]
        exact hz
      subst e1 e2 e3
      obtain ⟨b6, hb6, hb7⟩ : ∃ b : Bool, decide ((l.length : Int) ≤ 6) = b ∧ b = decide (l.length ≤ 6) := ⟨_, decide_eq_decide.2 (by omega), rfl⟩
      have HP : Hid (MadeP w l (.returned (.tuple #[.slice A1 l.length C1, .slice A2 l.length C2, .slice A3 l.length C3, .bool b6])) wr) := ⟨fun _ => ⟨A1, C1, A2, C2, A3, C3, by rw [hb7], c1, d1, c2, d2, c3, d3, ha, hr, hz2⟩, fun h => absurd HALL2 h, HB.out⟩
      clear HA HBY HBAD HALL HZ HM HB HZL HZ2 HALL2 hz2 ha hr hz hb7 hT c1 d1 c2 d2 c3 d3
      go_wp2
      exact bodyPost_ret (v := .tuple #[.slice A1 l.length C1, .slice A2 l.length C2, .slice A3 l.length C3, .bool b6]) (by simp [results, Try.results10, go_sem]) rfl HP.out
    obtain ⟨ab, ao, RA, RC, rfl, hab, c0, c1, c2, q⟩ := atsL_at HA.out h1
    have c0 := (HB.out.cell (p := ⟨ab, ao + i * 3, none⟩) hab).trans c0
    have c1 := (HB.out.cell (p := ⟨ab, ao + i * 3 + 1, none⟩) hab).trans c1
    have c2 := (HB.out.cell (p := ⟨ab, ao + i * 3 + 2, none⟩) hab).trans c2
    have hab2 := Nat.lt_of_lt_of_le hab hzb
    have HQ := Lib.hid q
    have HBY1 := Lib.hid (HBY.out _ (List.getElem_mem h1))
    have HMEM : Hid (l[i] ∈ l) := List.getElem_mem h1
    have HTK : Hid (l.take (i + 1) = l.take i ++ [l[i]]) := List.take_succ_eq_append_getElem h1
    have g1 : (0 : Int) ≤ (i : Int) := by omega
    have g2 : (i : Int) < (l.length : Int) := by omega
    have hw1 : IntKind.i64.wrap ((i : Int) + 1) = ((i + 1 : Nat) : Int) := by rw [IntWalk.i64_in _ (by omega)]; omega
    generalize l[i] = a at *
    clear q
    obtain ⟨wo, hwo⟩ : ∃ wo, wo = wr := ⟨_, rfl⟩
    subst hwo
    obtain ⟨W1, hW1⟩ : ∃ W1, W1 = wo.alloc (.cells #[.int .u8 (a.v : Nat), .slice RA a.R.length RC, .int .u8 (a.b : Nat)] 72) := ⟨_, rfl⟩
    have hr1 : Row W1 wo.heap.size 72 [.int .u8 (a.v : Nat), .slice RA a.R.length RC, .int .u8 (a.b : Nat)] := by rw [hW1]; exact Row.new wo 72 _
    have hx1 : Ext wo W1 := by rw [hW1]; exact (Ext.refl wo).alloc _
    have HR1 := Lib.hid hr1
    have HX1 := Lib.hid hx1
    clear hr1 hx1
    go_wp2_with fail
    rw [← hW1]
    clear hW1 c0 c1 c2
    go_loopw [11, 27] (fun v c wx => ∃ k : Nat, k ≤ 8 ∧ c = .int .i64 k ∧ wx.ownsRow W1.heap.size 3 1 v (varsK a.v k).length ((ints (varsK a.v k)).map (Value.int .i64)) ∧ Below W1.heap.size W1 wx) (fun _ c _ => 8 - (intOf c).toNat)
    case atStart => exact ⟨0, Nat.zero_le _, rfl, own_nil _ _ _ _, Below.refl _ _⟩
    case round =>
      obtain ⟨k, hk, rfl, hown, hb⟩ := hrel
      have HO := Lib.hid hown
      have HBK := Lib.hid hb
      have hzk := hb.size
      have hr2 := HR1.out.up hb
      have HR2 := Lib.hid hr2
      have b0 : wr.cell? ⟨wo.heap.size, 0, none⟩ = some (.int .u8 (a.v : Nat)) := hr2.cell 0
      have b1 : wr.cell? ⟨wo.heap.size, 1, none⟩ = some (.slice RA a.R.length RC) := hr2.cell 1
      have b2 : wr.cell? ⟨wo.heap.size, 2, none⟩ = some (.int .u8 (a.b : Nat)) := hr2.cell 2
      have hbz := hr2.lt
      clear hown hb hr2
      by_cases h2 : k < 8
      · have hwk : IntKind.i64.wrap ((k : Int) + 1) = ((k + 1 : Nat) : Int) := by rw [IntWalk.i64_in _ (by omega)]; omega
        have HVS := Lib.hid (varsK_succ a.v k)
        by_cases hbt : a.v / 2 ^ k % 2 = 1
        · have hbit : (((a.v : Int) / 2 ^ k).tmod 2 == 1) = true := by rw [bit_eq, hbt]; rfl
          have HV2 := Lib.hid (HVS.out.trans (if_pos hbt))
          have hkl := varsK_len a.v k
          obtain ⟨VA, VC, rfl, -, -, -⟩ := own_slice HO.out (by decide)
          clear hbt HVS
          go_wp2_with
            (at_builtin; refine app1Int rfl (.tmp 36) (.tmp 38) rfl W1.heap.size (.slice VA (varsK a.v k).length VC) (varsK a.v k).length ((ints (varsK a.v k)).map (Value.int .i64)) rfl (HO.out.alloc _) wr.heap.size [.int .i64 (k : Nat)] rfl (Row.new wr 3 [.int .i64 (k : Nat)]) rfl (by simp [Value.oneCell']) (by omega) (by simp; omega) ?_
             intro v' w6 hown6 hg6 hat6
             obtain ⟨A6, C6, rfl, -, -, -⟩ := own_slice hown6 (by decide)
             have HO6 : Hid (w6.ownsRow W1.heap.size 3 1 (.slice A6 ((varsK a.v k).length + 1) C6) (varsK a.v (k + 1)).length ((ints (varsK a.v (k + 1))).map (Value.int .i64))) := by
               rw [HV2.out, List.length_append]
               unfold ints at hown6 ⊢
               rw [List.map_append, List.map_append]
               exact hown6
             have HB6 : Hid (Below W1.heap.size W1 w6) := HBK.out.trans (app_kept (fun b hb => own_base HO.out hb) hzk hg6)
             clear hown6 hg6 hat6)
          go_roundw
          case rel => exact ⟨k + 1, h2, by go_num, HO6.out, HB6.out⟩
          case measure => simp [intOf]; omega
        · have hbit : (((a.v : Int) / 2 ^ k).tmod 2 == 1) = false := by
            rw [bit_eq]
            have : ((a.v / 2 ^ k % 2 : Nat) : Int) ≠ 1 := by omega
            simpa using this
          have HV2 := Lib.hid (HVS.out.trans (if_neg hbt))
          clear hbt HVS
          go_wp2
          go_roundw
          case rel => exact ⟨k + 1, h2, by go_num, by rw [HV2.out]; exact HO.out, HBK.out⟩
          case measure => simp [intOf]; omega
      · have HO2 : Hid (wr.ownsRow W1.heap.size 3 1 u11 a.d ((ints a.ks).map (Value.int .i64))) := by
          have h := HO.out
          rw [show k = 8 by omega] at h
          exact h
        obtain ⟨k8, hk8⟩ : ∃ k8, k8 = k := ⟨_, rfl⟩
        subst hk8
        obtain ⟨VA, VC, rfl, -, -, -⟩ := own_slice HO2.out (by decide)
        have hd8 := a.d_le
        have HBW := Lib.hid (Below.then (Below.then HB.out HX1.out.below hzb) HBK.out (by have := HX1.out.size; omega))
        have HBO := Lib.hid (Below.then HX1.out.below HBK.out HX1.out.size)
        clear HO
        by_cases hd4 : 4 < a.d
        · have hdd : decide ((4 : Int) < (a.d : Int)) = true := decide_eq_true (by omega)
          have HNO : Hid (¬ a.Ok) := fun h => by have := h.1; omega
          go_wp2
          exact bodyPost_ret (v := .tuple #[.slice none 0 0, .slice none 0 0, .slice none 0 0, .bool false]) (by simp [results, Try.results10, go_sem]) rfl (HBAD.out a HMEM.out HNO.out _ HBW.out)
        have hdd : decide ((4 : Int) < (a.d : Int)) = false := decide_eq_false (by omega)
        by_cases hR : 12 < a.R.length
        · have hdd2 : decide ((12 : Int) < (a.R.length : Int)) = true := decide_eq_true (by omega)
          have HNO : Hid (¬ a.Ok) := fun h => by have := h.2; omega
          go_wp2
          exact bodyPost_ret (v := .tuple #[.slice none 0 0, .slice none 0 0, .slice none 0 0, .bool false]) (by simp [results, Try.results10, go_sem]) rfl (HBAD.out a HMEM.out HNO.out _ HBW.out)
        have hdd2 : decide ((12 : Int) < (a.R.length : Int)) = false := decide_eq_false (by omega)
        have HOK : Hid a.Ok := ⟨by omega, by omega⟩
        obtain ⟨wv, hwv⟩ : ∃ wv, wv = wr := ⟨_, rfl⟩
        subst hwv
        have hzv := HBW.out.size
        go_wp2_with fail
        go_loopw [13, 53] (fun v c wx => ∃ j : Nat, j ≤ a.R.length ∧ c = .int .i64 j ∧ OwnRs wx wv.heap.size 34 v ((a.R.take j).map (rowI a.d)) ∧ Below wv.heap.size wv wx) (fun _ c _ => a.R.length - (intOf c).toNat)
        case atStart => exact ⟨0, Nat.zero_le _, rfl, OwnRs.nil _ _ _, Below.refl _ _⟩
        case round =>
          obtain ⟨j, hj, rfl, hrs, hbj⟩ := hrel
          have HRS := Lib.hid hrs
          have HBJ := Lib.hid hbj
          have hzj := hbj.size
          clear hrs hbj b0 b1 b2
          by_cases h3 : j < a.R.length
          · obtain ⟨qb, qo, rfl, hqb, hqc⟩ := HQ.out (by intro h0; rw [h0] at h3; simp at h3)
            have HBWJ := Lib.hid (Below.then HBW.out HBJ.out hzv)
            have d0 := (HBWJ.out.cell (p := ⟨qb, qo + j * 4 + 0, none⟩) hqb).trans (hqc j h3 0 (by omega))
            have d1 := (HBWJ.out.cell (p := ⟨qb, qo + j * 4 + 1, none⟩) hqb).trans (hqc j h3 1 (by omega))
            have d2 := (HBWJ.out.cell (p := ⟨qb, qo + j * 4 + 2, none⟩) hqb).trans (hqc j h3 2 (by omega))
            have d3 := (HBWJ.out.cell (p := ⟨qb, qo + j * 4 + 3, none⟩) hqb).trans (hqc j h3 3 (by omega))
            rw [Nat.add_zero] at d0
            have hqb2 := Nat.lt_of_lt_of_le hqb HBWJ.out.size
            have g3 : (0 : Int) ≤ (j : Int) := by omega
            have g4 : (j : Int) < (a.R.length : Int) := by omega
            have hwj : IntKind.i64.wrap ((j : Int) + 1) = ((j + 1 : Nat) : Int) := by rw [IntWalk.i64_in _ (by omega)]; omega
            have HTJ : Hid ((a.R.take (j + 1)).map (rowI a.d) = (a.R.take j).map (rowI a.d) ++ [rowI a.d a.R[j]]) := map_snoc _ _ _ h3
            clear hqc
            generalize a.R[j] = t at *
            obtain ⟨wj, hwj2⟩ : ∃ wj, wj = wr := ⟨_, rfl⟩
            subst hwj2
            have HYC : ∃ y0 y1 y2 y3 : Nat, y0 = t.getD 0 0 ∧ y1 = t.getD 1 0 ∧ y2 = t.getD 2 0 ∧ y3 = t.getD 3 0 := ⟨_, _, _, _, rfl, rfl, rfl, rfl⟩
            obtain ⟨y0, y1, y2, y3, e0, e1, e2, e3⟩ := HYC
            have HYK : Hid (∀ k, k < 4 → [Value.int .u8 (y0 : Nat), .int .u8 (y1 : Nat), .int .u8 (y2 : Nat), .int .u8 (y3 : Nat)][k]? = some (.int .u8 (t.getD k 0 : Nat))) := fun k hk => by
              match k, hk with
              | 0, _ => rw [e0]; rfl
              | 1, _ => rw [e1]; rfl
              | 2, _ => rw [e2]; rfl
              | 3, _ => rw [e3]; rfl
            rw [← e0] at d0
            rw [← e1] at d1
            rw [← e2] at d2
            rw [← e3] at d3
            clear e0 e1 e2 e3
            obtain ⟨W3, hW3⟩ : ∃ W3, W3 = wj.alloc (.cells #[.int .u8 (y0 : Nat), .int .u8 (y1 : Nat), .int .u8 (y2 : Nat), .int .u8 (y3 : Nat)] 74) := ⟨_, rfl⟩
            have hr3 : Row W3 wj.heap.size 74 [.int .u8 (y0 : Nat), .int .u8 (y1 : Nat), .int .u8 (y2 : Nat), .int .u8 (y3 : Nat)] := by rw [hW3]; exact Row.new wj 74 _
            have hx3 : Ext wj W3 := by rw [hW3]; exact (Ext.refl wj).alloc _
            have HR3 := Lib.hid hr3
            have HX3 := Lib.hid hx3
            have HZ3 : Hid (W3.heap.size = wj.heap.size + 1) := by show _ = _; rw [hW3]; simp
            clear hr3 hx3
            go_wp2_with fail
            rw [← hW3]
            clear hW3 d0 d1 d2 d3
            obtain ⟨W4, hW4⟩ : ∃ W4, W4 = W3.alloc (.cells #[] 41) := ⟨_, rfl⟩
            have HX4 : Hid (Ext W3 W4) := by rw [hW4]; exact (Ext.refl W3).alloc _
            have HE4 : Hid (W4.ownsRow W3.heap.size 41 3 (.slice (some ⟨W3.heap.size, 0, none⟩) 0 0) (rowI 0 t).length (rcells (rowI 0 t))) := by rw [hW4]; exact own_empty W3 _ _ _ (Nat.le_refl _)
            rw [← hW4]
            clear hW4
            go_loopw [16, 60] (fun v c wx => ∃ k : Nat, k ≤ a.d ∧ c = .int .i64 k ∧ wx.ownsRow W3.heap.size 41 3 v (rowI k t).length (rcells (rowI k t)) ∧ Below W3.heap.size W3 wx) (fun _ c _ => a.d - (intOf c).toNat)
            case atStart => exact ⟨0, Nat.zero_le _, rfl, by rw [← HZ3.out]; exact HE4.out, HX4.out.below⟩
            case round =>
              obtain ⟨k, hk, rfl, hown, hbk⟩ := hrel
              have HOK2 := Lib.hid hown
              have HBK2 := Lib.hid hbk
              have hzk2 := hbk.size
              have HKL := Lib.hid (rowI_len k t)
              obtain ⟨-, A5, C5, rfl, hc5, hm5, hs5, hf5⟩ := SlR.of_own hown
              have HF5 := Lib.hid (And.intro hc5 (And.intro hm5 (And.intro hs5 hf5)))
              have hr5 := HR3.out.up hbk
              have hb5z := hr5.lt
              clear hown hbk hc5 hm5 hs5 hf5
              by_cases h4 : k < a.d
              · have hck := (hr5.cell k).trans (HYK.out k (by omega))
                have g5 : (0 : Int) ≤ (k : Int) := by omega
                have g6 : (k : Int) < 4 := by omega
                have hwk2 : IntKind.i64.wrap ((k : Int) + 1) = ((k + 1 : Nat) : Int) := by rw [IntWalk.i64_in _ (by omega)]; omega
                have HSU := Lib.hid (rowI_succ k t)
                generalize t.getD k 0 = x at hck HSU
                clear hr5
                go_wp2_with
                  (at_builtin
                   refine app1V rfl (.tmp 63) (.tmp 70) rfl W3.heap.size (.slice A5 (rowI k t).length C5) (rowI k t) rfl (HOK2.out.alloc _) wr.heap.size (valI x) rfl ((Row.new wr 41 [.int .i64 1, .int .i64 ((x : Int) % 4), .string ⟨#[]⟩]).cell 0) ((Row.new wr 41 [.int .i64 1, .int .i64 ((x : Int) % 4), .string ⟨#[]⟩]).cell 1) ((Row.new wr 41 [.int .i64 1, .int .i64 ((x : Int) % 4), .string ⟨#[]⟩]).cell 2) (by have := HKL.out; omega) (by simp; omega) ?_
                   intro v' w6 hown6 hg6
                   rw [← HSU.out] at hown6
                   obtain ⟨-, A6, C6, rfl, -, -, -, -⟩ := SlR.of_own hown6
                   have HO6 := Lib.hid hown6
                   have HB6 : Hid (Below W3.heap.size W3 w6) := HBK2.out.trans (app_kept (fun b hb => own_base HOK2.out hb) hzk2 hg6)
                   clear hown6 hg6)
                go_wp2
                go_roundw
                case rel => exact ⟨k + 1, h4, by go_num, HO6.out, HB6.out⟩
                case measure => simp [intOf]; omega
              · obtain rfl : k = a.d := by omega
                clear hr5
                have HB5 := Lib.hid (Below.then HX3.out.below HBK2.out HX3.out.size)
                have HRS5 := Lib.hid ((HRS.out.keep HB5.out).keep ((Below.refl _ _).alloc (Nat.le_refl _) (.cells #[.slice A5 (rowI a.d t).length C5] 34)))
                have hz5 := HB5.out.size
                have HLT := Lib.hid (fun g hg => (own_lt (HRS.out).choose_spec.1 g hg))
                have HSL := Lib.hid (HF5.out.2.2.1.alloc1 (.cells #[.slice A5 (rowI a.d t).length C5] 34))
                have HLJ : Hid (((a.R.take j).map (rowI a.d)).length ≤ 12) := by
                  show _ ≤ _
                  rw [List.length_map, List.length_take]; omega
                go_wp2_with
                  (at_builtin
                   refine app1Row rfl (.tmp 73) (.tmp 75) rfl wv.heap.size u13 ((a.R.take j).map (rowI a.d)) rfl HRS5.out wr.heap.size A5 C5 (rowI a.d t) rfl (by go_simp) HSL.out HF5.out.1 HF5.out.2.1 (fun _ ad e e2 => by have h3 := HF5.out.2.2.2 ad e; have h4 := HLT.out _ e2; have := HZ3.out; omega) (by have := HLJ.out; omega) (by simp; omega) ?_
                   intro v' w7 hown7 hg7
                   rw [← HTJ.out] at hown7
                   have HO7 := Lib.hid hown7
                   have HB7 := Lib.hid (((Below.then HBJ.out HB5.out hzj).alloc (by omega) (.cells #[.slice A5 (rowI a.d t).length C5] 34)).grown hg7 (by simp; omega) HRS5.out.base)
                   clear hown7 hg7)
                go_wp2
                go_roundw
                case rel => exact ⟨j + 1, h3, by go_num, HO7.out, HB7.out⟩
                case measure => simp [intOf]; omega
          · have hrs := HRS.out
            rw [List.take_of_length_le (by omega)] at hrs
            obtain ⟨SA, SC, rfl, hsc, hsm, hss⟩ := hrs.sl
            have HWR := Lib.hid (Below.then HBW.out HBJ.out hzv)
            have hof := rlOf_any (a.d : Int) SA SC (a.R.map (rowI a.d)) wr (by omega) (by omega) hss (rowsI_ok (by omega) a.R) (by rw [List.length_map]; omega)
            rw [List.length_map] at hof ⊢
            have HOF := Lib.hid hof
            have HERR := Lib.hid (rowsI_err a.d a.R)
            have HOJ := Lib.hid (own_keep HO2.out HBJ.out)
            have hvlt := fun g hg => (own_lt HO2.out g hg)
            have HVLT := Lib.hid hvlt
            have hr2 := HR2.out.up HBJ.out
            have HR3 := Lib.hid hr2
            have b0 : wr.cell? ⟨wo.heap.size, 0, none⟩ = some (.int .u8 (a.v : Nat)) := hr2.cell 0
            have b1 : wr.cell? ⟨wo.heap.size, 1, none⟩ = some (.slice RA a.R.length RC) := hr2.cell 1
            have b2 : wr.cell? ⟨wo.heap.size, 2, none⟩ = some (.int .u8 (a.b : Nat)) := hr2.cell 2
            have hbz2 := hr2.lt
            clear hrs hsc hsm hss hof hvlt hr2 HRS
            go_wp2_with fail
            refine HOF.out.mono ?_
            rintro e w5 ⟨h1, -, hb5⟩
            obtain ⟨rv, rfl, PA, PC, rfl, hpc, hpm, hfr⟩ := h1 HERR.out
            have HFR : Hid (FreshRs wr.heap.size w5 PA a.rows) := hfr
            have HPC : Hid (a.rows.length ≤ PC ∧ PC ≤ 9223372036854775807) := ⟨hpc, hpm⟩
            have HPL : Hid ((RL.ofF (a.R.map (rowI a.d))).length = a.rows.length) := rfl
            rw [HPL.out]
            have HB5 := Lib.hid hb5
            have hz5 := hb5.size
            have hr5 := HR3.out.up hb5
            have HR5 := Lib.hid hr5
            clear h1 hpc hpm hfr hb5 HOF HERR HPL b0 b1 b2
            obtain ⟨W6, hW6⟩ : ∃ W6, W6 = w5.alloc (.cells #[.int .i64 (a.d : Nat), .slice PA a.rows.length PC] 48) := ⟨_, rfl⟩
            have hr6 : Row W6 w5.heap.size 48 [.int .i64 (a.d : Nat), .slice PA a.rows.length PC] := by rw [hW6]; exact Row.new w5 48 _
            have hx6 : Ext w5 W6 := by rw [hW6]; exact (Ext.refl w5).alloc _
            have hr56 := hr5.up hx6.below
            have b0 : W6.cell? ⟨wo.heap.size, 0, none⟩ = some (.int .u8 (a.v : Nat)) := hr56.cell 0
            have b1 : W6.cell? ⟨wo.heap.size, 1, none⟩ = some (.slice RA a.R.length RC) := hr56.cell 1
            have b2 : W6.cell? ⟨wo.heap.size, 2, none⟩ = some (.int .u8 (a.b : Nat)) := hr56.cell 2
            have hbz6 := hr56.lt
            have HR6 := Lib.hid hr6
            have HX6 := Lib.hid hx6
            have HO6 := Lib.hid (own_keep (own_keep HOJ.out HB5.out) hx6.below)
            have hz6 := hx6.size
            have HP5 : Hid (FreshRs wr.heap.size w5 PA a.rows) := HFR.out
            have HBO6 := Lib.hid (Below.then (Below.then (Below.then HBO.out HBJ.out (by have := HX1.out.size; have := HBK.out.size; omega)) HB5.out (by have := HX1.out.size; have := HBK.out.size; omega)) hx6.below (by have := HX1.out.size; have := HBK.out.size; omega))
            clear hr5 hr6 hx6 hr56
            go_upto_region 32 with (fail)
            rw [← hW6]
            clear hW6
            go_upto_block 8 with (fail)
            go_cut [11] from 91 to 105 (fun v wx => ∃ VB VD, v = .slice VB (badV a.b (ints a.ks)).length VD ∧ wx.ownsRow W1.heap.size 3 1 v (badV a.b (ints a.ks)).length ((badV a.b (ints a.ks)).map (Value.int .i64)) ∧ W6.grownBy wx (Value.slice VA a.d VC).ownBlock)
            case first =>
              have HLD : Hid ((ints a.ks).length = a.d) := ints_len a.ks
              have hnn : a.d ≤ 8 := hd8
              by_cases hb0 : a.b = 0
              · have hq0 : ((a.b : Int) == 0) = true := by rw [hb0]; rfl
                have HBV : Hid (badV a.b (ints a.ks) = ints a.ks) := by show _ = _; unfold badV; rw [if_pos hb0]
                clear hb0
                go_wp2_with fail
                go_meet
                case rel =>
                  rw [HBV.out, HLD.out]
                  exact ⟨VA, VC, rfl, HO6.out, ⟨rfl, rfl, rfl, Nat.le_refl _, fun _ _ _ => rfl⟩⟩
              have hq0 : ((a.b : Int) == 0) = false := by
                have : (a.b : Int) ≠ 0 := by omega
                simpa using this
              by_cases hb1 : a.b = 1
              · have hq1 : ((a.b : Int) == 1) = true := by rw [hb1]; rfl
                have HBV : Hid (badV a.b (ints a.ks) = ints a.ks ++ [9]) := by show _ = _; unfold badV; rw [if_neg hb0, if_pos hb1]
                clear hb0 hb1
                go_wp2_with
                  (at_builtin
                   refine app1Int rfl (.tmp 98) (.tmp 99) rfl W1.heap.size (.slice VA a.d VC) a.d ((ints a.ks).map (Value.int .i64)) rfl (HO6.out.alloc _) W6.heap.size [.int .i64 9] rfl (Row.new W6 3 [.int .i64 9]) rfl (by simp [Value.oneCell']) (by omega) (by simp; omega) ?_
                   intro v' w7 hown7 hg7 hat7
                   obtain ⟨A7, C7, rfl, -, -, -⟩ := own_slice hown7 (by decide)
                   have HO7 : Hid (∃ VB VD, Value.slice A7 (a.d + 1) C7 = .slice VB (badV a.b (ints a.ks)).length VD ∧ w7.ownsRow W1.heap.size 3 1 (Value.slice A7 (a.d + 1) C7) (badV a.b (ints a.ks)).length ((badV a.b (ints a.ks)).map (Value.int .i64)) ∧ W6.grownBy w7 (Value.slice VA a.d VC).ownBlock) := by
                     refine ⟨A7, C7, ?_, ?_, grown_alloc hg7⟩
                     · rw [HBV.out, List.length_append, HLD.out]; rfl
                     · rw [HBV.out, List.length_append, HLD.out, List.map_append]; exact hown7
                   clear hown7 hg7 hat7)
                go_wp2_with fail
                go_meet
                case rel => exact HO7.out
              have hq1 : ((a.b : Int) == 1) = false := by
                have : (a.b : Int) ≠ 1 := by omega
                simpa using this
              by_cases hb2 : a.b = 2
              · have hq2 : ((a.b : Int) == 2) = true := by rw [hb2]; rfl
                have HBV : Hid (badV a.b (ints a.ks) = ints a.ks ++ [0]) := by show _ = _; unfold badV; rw [if_neg hb0, if_neg hb1, if_pos hb2]
                clear hb0 hb1 hb2
                go_wp2_with
                  (at_builtin
                   refine app1Int rfl (.tmp 103) (.tmp 104) rfl W1.heap.size (.slice VA a.d VC) a.d ((ints a.ks).map (Value.int .i64)) rfl (HO6.out.alloc _) W6.heap.size [.int .i64 0] rfl (Row.new W6 3 [.int .i64 0]) rfl (by simp [Value.oneCell']) (by omega) (by simp; omega) ?_
                   intro v' w7 hown7 hg7 hat7
                   obtain ⟨A7, C7, rfl, -, -, -⟩ := own_slice hown7 (by decide)
                   have HO7 : Hid (∃ VB VD, Value.slice A7 (a.d + 1) C7 = .slice VB (badV a.b (ints a.ks)).length VD ∧ w7.ownsRow W1.heap.size 3 1 (Value.slice A7 (a.d + 1) C7) (badV a.b (ints a.ks)).length ((badV a.b (ints a.ks)).map (Value.int .i64)) ∧ W6.grownBy w7 (Value.slice VA a.d VC).ownBlock) := by
                     refine ⟨A7, C7, ?_, ?_, grown_alloc hg7⟩
                     · rw [HBV.out, List.length_append, HLD.out]; rfl
                     · rw [HBV.out, List.length_append, HLD.out, List.map_append]; exact hown7
                   clear hown7 hg7 hat7)
                go_wp2_with fail
                go_meet
                case rel => exact HO7.out
              have hq2 : ((a.b : Int) == 2) = false := by
                have : (a.b : Int) ≠ 2 := by omega
                simpa using this
              have HBV : Hid (badV a.b (ints a.ks) = -1 :: ints a.ks) := by show _ = _; unfold badV; rw [if_neg hb0, if_neg hb1, if_neg hb2]
              clear hb0 hb1 hb2
              have HSL6 : Hid (SlI .i64 W6.heap.size W6 VA (ints a.ks)) := by
                obtain ⟨A', C', e', -, hs'⟩ := Sl.of_own_n HO6.out
                injection e' with e1 _ e3
                subst e1 e3
                exact hs'
              go_wp2_with
                (at_builtin
                 refine appIs rfl (.tmp 91) (.tmp 92) rfl W1.heap.size (.slice (some ⟨W6.heap.size, 0, none⟩) 1 1) 1 [.int .i64 (-1)] ?_ ?_ VA a.d VC (ints a.ks) HLD.out ?_ ?_ ?_ ?_ ?_
                 · rfl
                 · exact own_one W6 W1.heap.size 3 (.int .i64 (-1)) (by omega)
                 · rfl
                 · exact (Sl.below HSL6.out ((Below.refl _ _).alloc (Nat.le_refl _) _) (Nat.le_refl _)).more (by simp)
                 · omega
                 · simp; omega
                 intro v' w7 hown7 hg7
                 obtain ⟨A7, C7, rfl, -, -, -⟩ := own_slice hown7 (by decide)
                 have HO7 : Hid (∃ VB VD, Value.slice A7 (1 + a.d) C7 = .slice VB (badV a.b (ints a.ks)).length VD ∧ w7.ownsRow W1.heap.size 3 1 (Value.slice A7 (1 + a.d) C7) (badV a.b (ints a.ks)).length ((badV a.b (ints a.ks)).map (Value.int .i64)) ∧ W6.grownBy w7 (Value.slice VA a.d VC).ownBlock) := by
                   have hl : (badV a.b (ints a.ks)).length = 1 + a.d := by rw [HBV.out, List.length_cons, HLD.out]; omega
                   refine ⟨A7, C7, by rw [hl], ?_, ?_⟩
                   · rw [hl, HBV.out]; exact hown7
                   · have h := grown_alloc hg7
                     exact ⟨h.os, h.tape, h.output, h.size, fun b hb _ => h.block b hb (by intro e; have e' : some b = some W6.heap.size := e; injection e' with e'; omega)⟩
                 clear hown7 hg7)
              go_wp2_with fail
              go_meet
              case rel => exact HO7.out
            case rest =>
              obtain ⟨VB, VD, rfl, hownB, hgB⟩ := hcut
              have hzc := hgB.size
              have hx1z := HX1.out.size
              have hvo : ∀ g, (Value.slice VA a.d VC).ownBlock = some g → W1.heap.size ≤ g ∧ g < wv.heap.size := fun g hg => ⟨own_base HO2.out hg, HVLT.out g hg⟩
              obtain ⟨hv1, hv2, hv3⟩ := own_held hownB
              have hbc : Below wo.heap.size wo wc := HBO6.out.grown hgB (by omega) (fun g hg => by have := hvo g hg; omega)
              have ht0 := (HM.out.three).push hbc (T := fun w'' => SlI .i64 wc.heap.size w'' VB (badV a.b (ints a.ks)) ∧ SlRs w5.heap.size w'' PA a.rows) fun w'' hk => ⟨hv3 w'' fun p h1 h2 => hk p (by omega) h2, HP5.out w'' fun p h1 h2 => (hk p (by omega) (by omega)).trans ((grown_cell hgB (p := p) (by omega) fun e => by have := hvo _ e.symm; omega).trans (HX6.out.below.cell (by omega)))⟩
              have hr5 := HR6.out.grown hgB (fun e => by have := hvo _ e.symm; omega)
              have HRC := Lib.hid hr5
              have HT1 := Lib.hid (ht0.up ((Below.refl _ _).alloc (Nat.le_refl _) (.cells #[.slice VB (badV a.b (ints a.ks)).length VD, .int .i64 (a.d : Nat), .slice PA a.rows.length PC] 52)))
              have HV := Lib.hid (And.intro hv1 hv2)
              have HBC := Lib.hid (Below.then HB.out hbc (by omega))
              have b0 : wc.cell? ⟨w5.heap.size, 0, none⟩ = some (.int .i64 (a.d : Nat)) := hr5.cell 0
              have b1 : wc.cell? ⟨w5.heap.size, 1, none⟩ = some (.slice PA a.rows.length PC) := hr5.cell 1
              have hb5 : w5.heap.size < wc.heap.size := hr5.lt
              have HZI : Hid (Z.length ≤ 3600000000000) := by have := HZL.out; show _ ≤ _; omega
              have HLO := Lib.hid (own_lt HM.out.out)
              have HWZ : Hid (w.heap.size ≤ (wc.alloc (.cells #[.slice VB (badV a.b (ints a.ks)).length VD, .int .i64 (a.d : Nat), .slice PA a.rows.length PC] 52)).heap.size) := by show _ ≤ _; have := HBC.out.size; simp; omega
              have HSMALL := Lib.hid (rlRows_any (a.d : Nat))
              have HRO : Hid (RsOk a.rows ∧ a.rows.length ≤ 12) := ⟨by
                intro r hr
                exact rowsI_ok (n := a.d) (by omega) a.R r ((RL.mem_ofF _ _).1 hr), Nat.le_trans (RL.ofF_length_le _) (by rw [List.length_map]; omega)⟩
              generalize hvs : badV a.b (ints a.ks) = vs at *
              generalize hrows : a.rows = P at *
              have HVS : Hid (a.ra = ⟨vs, (a.d : Nat), P⟩) := by show LA.ra a = _; unfold LA.ra; rw [hvs, hrows]
              clear hownB hgB hv1 hv2 hv3 hbc ht0 hr5 hvs hrows
              have hzw5 : wo.heap.size < w5.heap.size := by have := HBO.out.size; omega
              go_wp2_with
                (at_builtin
                 first
                   | (refine app1LA rfl (.tmp 106) (.tmp 110) rfl w.heap.size u6 Z.length (Z.flatMap outC) rfl HT1.out.out wc.heap.size [.slice VB vs.length VD, .int .i64 (a.d : Nat), .slice PA P.length PC] rfl (Row.new wc 52 [.slice VB vs.length VD, .int .i64 (a.d : Nat), .slice PA P.length PC]) rfl (by simp [Value.oneCell']) HZI.out HWZ.out ?_
                      intro v7 w7 hown7 hg7 hat7
                      obtain ⟨A7, C7, rfl, -, -, -⟩ := own_slice hown7 (by decide)
                      have HT2 := Lib.hid (HT1.out.growO hown7 hg7 hat7)
                      have hr7 := (HRC.out.up ((Below.refl _ _).alloc (Nat.le_refl _) (.cells #[.slice VB vs.length VD, .int .i64 (a.d : Nat), .slice PA P.length PC] 52))).grown hg7 (fun e => by have := HLO.out _ e.symm; omega)
                      have b0 : w7.cell? ⟨w5.heap.size, 0, none⟩ = some (.int .i64 (a.d : Nat)) := hr7.cell 0
                      have b1 : w7.cell? ⟨w5.heap.size, 1, none⟩ = some (.slice PA P.length PC) := hr7.cell 1
                      have hb57 : w5.heap.size < w7.heap.size := hr7.lt
                      have hzc7 : wc.heap.size ≤ w7.heap.size := by have := hg7.size; simp at this; omega
                      have HB7 := Lib.hid ((HBC.out.alloc HBC.out.size (.cells #[.slice VB vs.length VD, .int .i64 (a.d : Nat), .slice PA P.length PC] 52)).grown hg7 HWZ.out (fun k hk => own_base HM.out.out hk))
                      have HRLR := Lib.hid (rlRows_any (a.d : Nat) PA PC P w7 (HT2.out.el.now.2.2.more (by have := HT2.out; omega)) HRO.out.1 (by have := HRO.out.2; omega))
                      clear hown7 hg7 hat7 hr7)
                   | fail)
              refine HRLR.out.mono ?_
              rintro e w8 ⟨g8, rfl, hm8, hb8⟩
              have HJ := Lib.hid (l7RowsJ_any (some ⟨g8, 0, none⟩) P.length P w8 hm8.sl (by have := HRO.out.2; omega) HRO.out.1)
              have HB8 := Lib.hid hb8
              have hz8 := hb8.size
              clear hm8 hb8 HRLR b0 b1
              go_wp2_with fail
              refine HJ.out.mono ?_
              rintro e w9 ⟨v9, rfl, hj9, hb9⟩
              obtain ⟨QA, QC, rfl, hq1, hq2, hq3⟩ := hj9.sl (P := fun b => w8.heap.size ≤ b) (fun _ h => h)
              have hz9 := hb9.size
              have HT3 := Lib.hid ((HT2.out.push (Below.then HB8.out hb9 hz8) (T := fun w'' => SlRs w9.heap.size w'' QA P) (fun w'' hk => (hq3.keep (fun p h1 h2 => hk p (by omega) h1)).sl)).up ((Below.refl _ _).alloc (Nat.le_refl _) (.cells #[.slice VB vs.length VD, .slice QA P.length QC] 79)))
              have HQ2 := Lib.hid (And.intro hq1 hq2)
              have HB9 := Lib.hid (Below.then HB7.out (Below.then HB8.out hb9 hz8) HB7.out.size)
              have hw9 := HB9.out.size
              clear hj9 hq1 hq2 hq3 hb9 HJ
              go_wp2_with
                (at_builtin
                 first
                   | (refine app1RA rfl (.tmp 112) (.tmp 118) rfl w.heap.size u7 Z.length (Z.flatMap refC) rfl HT3.out.ref w9.heap.size [.slice VB vs.length VD, .slice QA P.length QC] rfl (Row.new w9 79 [.slice VB vs.length VD, .slice QA P.length QC]) rfl (by simp [Value.oneCell']) HZI.out (by simp; omega) ?_
                      intro v10 w10 hown10 hg10 hat10
                      obtain ⟨A10, C10, rfl, -, -, -⟩ := own_slice hown10 (by decide)
                      have HB10 := Lib.hid ((HB9.out.alloc HB9.out.size (.cells #[.slice VB vs.length VD, .slice QA P.length QC] 79)).grown hg10 (by simp; omega) (fun k hk => own_base HT3.out.ref hk))
                      have hw10 := HB10.out.size
                      have HT4 := Lib.hid ((HT3.out.growM hown10 hg10 hat10).up ((Below.refl _ _).alloc (Nat.le_refl _) (.cells #[.int .i64 (a.d : Nat)] 3)))
                      have hz10 : w9.heap.size ≤ w10.heap.size := by have := hg10.size; simp at this; omega
                      clear hown10 hg10 hat10)
                   | (refine app1Int rfl (.tmp 120) (.tmp 122) rfl w.heap.size u8 Z.length (Z.flatMap arC) rfl HT4.out.ar w10.heap.size [.int .i64 (a.d : Nat)] rfl (Row.new w10 3 [.int .i64 (a.d : Nat)]) rfl (by simp [Value.oneCell']) HZI.out (by simp; omega) ?_
                      intro v12 w12 hown12 hg12 hat12
                      obtain ⟨A12, C12, rfl, -, -, -⟩ := own_slice hown12 (by decide)
                      have HB12 := Lib.hid ((HB10.out.alloc HB10.out.size (.cells #[.int .i64 (a.d : Nat)] 3)).grown hg12 (by simp; omega) (fun k hk => own_base HT4.out.ar hk))
                      have HT5 := Lib.hid (HT4.out.growA hown12 hg12 hat12)
                      have hz12 : w10.heap.size ≤ w12.heap.size := by have := hg12.size; simp at this; omega
                      clear hown12 hg12 hat12)
                   | fail)
              go_roundw
              case rel =>
                refine ⟨i + 1, h1, by go_num, fun x hx => ?_, ⟨Z ++ [(⟨vs, (a.d : Nat), P⟩, ⟨VB, VD, PA, PC, QA, QC⟩)], ?_, ?_⟩, HB12.out⟩
                · rw [HTK.out] at hx
                  rcases List.mem_append.1 hx with hx | hx
                  · exact HALL.out x hx
                  · simp at hx; subst hx; exact HOK.out
                · rw [HTK.out, List.map_append, List.map_append, HZ.out]
                  congr 1
                  show _ = [a.ra]
                  rw [HVS.out]
                  rfl
                · exact MadeI.step rfl HT5.out (by omega) (by omega) (by omega) (by omega) HM.out.ok ⟨HV.out.1, HV.out.2, HPC.out.1, HPC.out.2, HQ2.out.1, HQ2.out.2⟩
              case measure => simp [intOf]; omega

end Go.Proofs.Ytiomelogggilgaa
end

section
/- Plain: the atoms that chapter 35's laws make, and their join. -/
namespace Go.Proofs.Ytiomelogggilgaa
open Go.RowKit Go.Sort

theorem asc_nat (b : Nat) : ∀ (l : List Nat) (a : Nat), l.Pairwise (· < ·) → (∀ x ∈ l, a ≤ x ∧ x < b) → l.length ≤ b - a
  | [], _, _, _ => Nat.zero_le _
  | x :: t, a, h, hx => by
    obtain ⟨h1, h2⟩ := List.pairwise_cons.1 h
    have h3 := hx x List.mem_cons_self
    have := asc_nat b t (x + 1) h2 fun y hy => ⟨h1 y hy, (hx y (List.mem_cons_of_mem _ hy)).2⟩
    rw [List.length_cons]
    omega
theorem cmpV_valI {x y : Nat} : RL.cmpV (valI x) (valI y) < 0 ↔ x % 4 < y % 4 := by
  by_cases h : x % 4 = y % 4
  · rw [show valI x = valI y by unfold valI; rw [h], RL.tot_cmpV.self]
    omega
  · have h2 : ((x % 4 : Nat) : Int) ≠ ((y % 4 : Nat) : Int) := fun e => h (by omega)
    rw [RL.cmpV_int (a := valI x) (b := valI y) rfl h2]
    show RL.cmpI ((x % 4 : Nat) : Int) ((y % 4 : Nat) : Int) < 0 ↔ _
    unfold RL.cmpI
    split
    · omega
    · split <;> omega
/-- A value that the laws make. -/
def IsI (c : RL.V) : Prop := ∃ x, c = valI x
theorem asc4 {l : RL.R} (h : l.Pairwise fun a b => RL.cmpV a b < 0) (hI : ∀ c ∈ l, IsI c) : l.length ≤ 4 := by
  have e : ∀ c ∈ l, valI c.int.toNat = c ∧ c.int.toNat % 4 = c.int.toNat ∧ c.int.toNat < 4 := fun c hc => by
    obtain ⟨x, rfl⟩ := hI c hc
    have e1 : (valI x).int.toNat = x % 4 := rfl
    rw [e1]
    refine ⟨?_, by omega, by omega⟩
    unfold valI
    rw [Nat.mod_mod]
  have h2 : (l.map fun c => c.int.toNat).Pairwise (· < ·) := by
    refine List.pairwise_map.2 (h.imp_of_mem fun {a b} ha hb hab => ?_)
    obtain ⟨a1, a2, a3⟩ := e a ha
    obtain ⟨b1, b2, b3⟩ := e b hb
    rw [← a1, ← b1, cmpV_valI, a2, b2] at hab
    exact hab
  have h3 := asc_nat 4 (l.map fun c => c.int.toNat) 0 h2 fun x hx => by
    obtain ⟨c, hc, rfl⟩ := List.mem_map.1 hx
    exact ⟨Nat.zero_le _, (e c hc).2.2⟩
  rw [List.length_map] at h3
  exact h3

/-- An atom with few rows of small values. -/
structure Small (a : RA) : Prop where
  ss : RL.SS a.P
  len : ∀ r ∈ a.P, (r.length : Int) = a.ar
  ar : a.ar ≤ 1000
  many : a.P.length ≤ 60000
  vl : a.vs.length ≤ 1000
  I : ∀ r ∈ a.P, ∀ c ∈ r, IsI c
theorem IsI.str {c : RL.V} (h : IsI c) : c.str.size = 0 := by obtain ⟨x, rfl⟩ := h; rfl
theorem Small.rsOk {a : RA} (h : Small a) : RsOk a.P := fun r hr => ⟨by have := h.len r hr; have := h.ar; omega, fun c hc => by rw [(h.I r hr c hc).str]; exact Nat.zero_le _⟩
theorem Small.kids {a : RA} (h : Small a) (hd : ∀ r ∈ a.P, r.length = a.at.d) (q : RL.R) : (RL.kids a.at.d a.at.P q).length ≤ 4 := by
  rcases Nat.lt_or_ge q.length a.at.d with hq | hq
  · refine asc4 (RL.kids_asc hd q) fun c hc => ?_
    obtain ⟨y, hy, e⟩ := (RL.mem_kids hd hq c).1 hc
    refine h.I y hy c (List.mem_of_mem_take (i := q.length + 1) ?_)
    rw [e]; simp
  · rw [RL.kids_out hq]; exact Nat.zero_le _
theorem Small.kids0 {a : RA} (h : Small a) (q : RL.R) : (RL.kids a.at.d a.at.P q).length ≤ 60000 := by
  have h1 := RL.kids_fit (d := a.at.d) (P := a.at.P) q
  have h2 : (RL.nodes a.at.d a.at.P q.length).length ≤ a.P.length := by
    unfold RL.nodes
    split
    · refine Nat.le_trans (RL.ofF_length_le _) ?_
      rw [List.length_map]
      exact Nat.le_refl _
    · exact Nat.zero_le _
  have := h.many
  omega
theorem Small.rel0 {a : RA} (h : Small a) : RelOk 60000 a := ⟨h.ss, h.len, h.rsOk, h.many, h.kids0⟩
theorem Small.hd {n : Int} {a : RA} (h : Small a) (he : errAt n a = 0) : ∀ r ∈ a.P, r.length = a.at.d := fun r hr => by
  have h3 := (errAt_zero he).2.2
  have h4 := h.len r hr
  show r.length = (a.vs.map Int.toNat).length
  rw [List.length_map]
  omega
theorem Small.ref {n : Int} {a : RA} (h : Small a) (he : errAt n a = 0) : RefOk a := ⟨h.vl, h.many, h.rsOk, fun r hr => by have := h.hd he r hr; rw [this]; show (a.vs.map Int.toNat).length = _; rw [List.length_map], fun v hv => ((errAt_zero he).2.1 v hv).1⟩
theorem Small.rel {n : Int} {a : RA} (h : Small a) (he : errAt n a = 0) : RelOk 4 a := ⟨h.ss, h.len, h.rsOk, h.many, h.kids (h.hd he)⟩
theorem zV_I : IsI (valI 0) := ⟨0, rfl⟩
theorem valsF_I {X : List RA} {n : Int} (hX : ∀ a ∈ X, Small a) (he : ∀ a ∈ X, errAt n a = 0) (v : Int) : ∀ c ∈ valsF X v, IsI c := fun c hc => by
  unfold valsF at hc
  split at hc
  · rename_i a k hcol
    obtain ⟨ha, hk⟩ : a ∈ X ∧ k < a.vs.length := by
      unfold colF at hcol
      obtain ⟨a', ha', h1⟩ := List.exists_of_findSome?_eq_some hcol
      obtain ⟨k', hk', e⟩ := Option.map_eq_some_iff.1 h1
      injection e with e1 e2
      subst e1 e2
      exact ⟨ha', (List.findIdx?_eq_some_iff_getElem.1 hk').1⟩
    obtain ⟨r, hr, rfl⟩ := List.mem_map.1 hc
    obtain ⟨y, hy, rfl⟩ := List.mem_map.1 ((RL.mem_ofF _ _).1 hr)
    have hl := (hX a ha).hd (he a ha) y hy
    have hl2 : k < y.length := by rw [hl]; show k < (a.vs.map Int.toNat).length; rw [List.length_map]; exact hk
    show IsI (y.getD (k : Int).toNat zV)
    rw [Int.toNat_natCast, List.getD_eq_getElem?_getD, List.getElem?_eq_getElem hl2]
    exact (hX a ha).I y hy _ (List.getElem_mem hl2)
  · simp at hc
theorem valsF_four {X : List RA} {n : Int} (hX : ∀ a ∈ X, Small a) (he : ∀ a ∈ X, errAt n a = 0) (v : Int) : (valsF X v).length ≤ 4 := asc4 (valsF_asc X v) (valsF_I hX he v)

/-- A join of small atoms without error. -/
structure Good0 (m : Nat) (X : List RA) : Prop where
  le : m ≤ 32
  many : X.length ≤ 32
  sm : ∀ a ∈ X, Small a
  ok : ∀ a ∈ X, errAt (m : Int) a = 0
  cov : ∀ v : Nat, v < m → ∃ a ∈ X, (v : Int) ∈ a.vs
theorem Good0.of {n : Int} {X : List RA} (hX : ∀ a ∈ X, Small a) (h : errA n X = 0) : ∃ m : Nat, n = (m : Int) ∧ Good0 m X := by
  obtain ⟨m, h1, h2, h3, h4, h5⟩ := errA_zero h
  subst h1
  exact ⟨m, rfl, h2, h3, hX, h4, h5⟩
section
variable {m : Nat} {X Y : List RA}
theorem Good0.at (h : Good0 m X) : ∀ a ∈ X, a.at.Ok m := fun a ha => (raOk_of (h.ok a ha) ((h.sm a ha).rel (h.ok a ha))).at_
theorem Good0.ats (h : Good0 m X) : ∀ a ∈ X.map RA.at, a.Ok m := fun a ha => by obtain ⟨r, hr, rfl⟩ := List.mem_map.1 ha; exact h.at r hr
theorem Good0.use (h : Good0 m X) : ∀ v, v < m → ∃ a ∈ X.map RA.at, v ∈ a.vs := fun v hv => by
  obtain ⟨a, ha, h1⟩ := used_of h.cov v hv
  exact ⟨a.at, List.mem_map.2 ⟨a, ha, rfl⟩, h1⟩
theorem Good0.mem (h : Good0 m X) (y : RL.R) : y ∈ joinF m (X.map RA.at) ↔ y.length = m ∧ ∀ a ∈ X, satA a.at y := by
  rw [mem_joinF h.ats h.use]
  constructor
  · exact fun ⟨h1, h2⟩ => ⟨h1, fun a ha => h2 _ (List.mem_map.2 ⟨a, ha, rfl⟩)⟩
  · exact fun ⟨h1, h2⟩ => ⟨h1, fun a ha => by obtain ⟨r, hr, rfl⟩ := List.mem_map.1 ha; exact h2 r hr⟩
theorem Good0.joinSS (h : Good0 m X) : RL.SS (joinF m (X.map RA.at)) := joinF_ss h.ats h.use
theorem Good0.refJ (h : Good0 m X) : refJ (X.map RA.at) (fun v => valsF X (v : Int)) m [] = joinF m (X.map RA.at) := refJ_join h.at h.cov
theorem Good0.len (h : Good0 m X) : (joinF m (X.map RA.at)).length ≤ 4 ^ m := by
  rw [← h.refJ]
  exact refJ_len (fun v => valsF_four h.sm h.ok v) (by omega) m []
/-- The values of a row of the join. -/
theorem Good0.I (h : Good0 m X) : ∀ y ∈ joinF m (X.map RA.at), ∀ c ∈ y, IsI c := fun y hy c hc => by
  obtain ⟨h1, h2⟩ := (h.mem y).1 hy
  obtain ⟨i, hi, rfl⟩ := List.getElem_of_mem hc
  obtain ⟨a, ha, hv⟩ := h.cov i (by omega)
  have hs : a.at.vs.map (dv y) ∈ a.P := h2 a ha
  refine (h.sm a ha).I _ hs _ (List.mem_map.2 ⟨i, List.mem_map.2 ⟨_, hv, by simp⟩, ?_⟩)
  unfold dv
  rw [List.getD_eq_getElem?_getD, List.getElem?_eq_getElem hi]
  rfl
theorem Good0.rsOk (h : Good0 m X) : RsOk (joinF m (X.map RA.at)) := fun y hy => ⟨by have := ((h.mem y).1 hy).1; have := h.le; omega, fun c hc => by rw [(h.I y hy c hc).str]; exact Nat.zero_le _⟩
/-- Joins with the same meaning are equal. -/
theorem Good0.ext (h : Good0 m X) (h' : Good0 m Y) (hs : ∀ y : RL.R, y.length = m → ((∀ a ∈ X, satA a.at y) ↔ ∀ a ∈ Y, satA a.at y)) : joinF m (X.map RA.at) = joinF m (Y.map RA.at) :=
  RL.SS.ext h.joinSS h'.joinSS fun y => by
    rw [h.mem, h'.mem]
    exact ⟨fun ⟨a, b⟩ => ⟨a, (hs y a).1 b⟩, fun ⟨a, b⟩ => ⟨a, (hs y a).2 b⟩⟩
end
theorem errA_of {m : Nat} {X : List RA} (hm : m ≤ 32) (hX : X.length ≤ 32) (h0 : ∀ a ∈ X, errAt (m : Int) a = 0) (hu : ∀ v : Nat, v < m → ∃ a ∈ X, (v : Int) ∈ a.vs) : errA (m : Int) X = 0 := by
  rw [errA_end (by omega) (by omega) fun j hj => h0 _ (List.getElem_mem hj), if_neg]
  intro h
  obtain ⟨v, hv, h1⟩ := List.any_eq_true.1 h
  rw [List.mem_range, Int.toNat_natCast] at hv
  obtain ⟨a, ha, hva⟩ := hu v hv
  have := List.all_eq_true.1 h1 a ha
  exact absurd hva (of_decide_eq_true this)
/-- Lists of the same atoms have an error or none together. -/
theorem errA_iff {n : Int} {X Y : List RA} (hX : X.length ≤ 32) (hY : Y.length ≤ 32) (h : ∀ a, a ∈ X ↔ a ∈ Y) : errA n X = 0 ↔ errA n Y = 0 := by
  constructor
  · intro e
    obtain ⟨m, rfl, hm, _, h1, h2⟩ := errA_zero e
    exact errA_of hm hY (fun a ha => h1 a ((h a).2 ha)) fun v hv => by obtain ⟨a, ha, hx⟩ := h2 v hv; exact ⟨a, (h a).1 ha, hx⟩
  · intro e
    obtain ⟨m, rfl, hm, _, h1, h2⟩ := errA_zero e
    exact errA_of hm hX (fun a ha => h1 a ((h a).1 ha)) fun v hv => by obtain ⟨a, ha, hx⟩ := h2 v hv; exact ⟨a, (h a).2 ha, hx⟩
theorem joinF_same {m : Nat} {X Y : List RA} (hX : Good0 m X) (hY : Good0 m Y) (h : ∀ a, a ∈ X ↔ a ∈ Y) : joinF m (X.map RA.at) = joinF m (Y.map RA.at) :=
  hX.ext hY fun _ _ => ⟨fun hs a ha => hs a ((h a).2 ha), fun hs a ha => hs a ((h a).1 ha)⟩
theorem turn_mem {α : Type} (X : List α) (k : Nat) (a : α) : a ∈ X ↔ a ∈ X.drop k ++ X.take (k + 1) := by
  rw [List.mem_append]
  constructor
  · intro h
    rw [← List.take_append_drop k X, List.mem_append] at h
    rcases h with h | h
    · exact .inr (List.mem_of_mem_take (i := k) (by rw [List.take_take, Nat.min_eq_left (by omega)]; exact h))
    · exact .inl h
  · exact fun h => h.elim List.mem_of_mem_drop List.mem_of_mem_take
theorem pow4 {m : Nat} (h : m ≤ 8) : 4 ^ m ≤ 65536 := Nat.le_trans (Nat.pow_le_pow_right (by omega) h) (by decide)
theorem pow4_9 {m : Nat} (h : m ≤ 9) : 4 ^ m ≤ 262144 := Nat.le_trans (Nat.pow_le_pow_right (by omega) h) (by decide)

/-- What Made makes is small. -/
theorem LA.small {a : LA} (h : a.Ok) : Small a.ra where
  ss := RL.SS.of _
  len r hr := by
    obtain ⟨t, _, rfl⟩ := List.mem_map.1 ((RL.mem_ofF _ _).1 hr)
    rw [rowI_len]
    rfl
  ar := by have := h.1; show ((a.d : Nat) : Int) ≤ 1000; omega
  many := by
    refine Nat.le_trans (RL.ofF_length_le _) ?_
    rw [List.length_map]
    have := h.2
    omega
  vl := by
    have h1 := badV_len a.b (ints a.ks)
    have h2 : (ints a.ks).length = a.d := by unfold ints; rw [List.length_map]; rfl
    have := a.d_le
    show (badV a.b (ints a.ks)).length ≤ 1000
    omega
  I r hr c hc := by
    obtain ⟨t, _, rfl⟩ := List.mem_map.1 ((RL.mem_ofF _ _).1 hr)
    obtain ⟨k, _, rfl⟩ := List.mem_map.1 hc
    exact ⟨_, rfl⟩
theorem LA.smalls {l : List LA} (h : ∀ a ∈ l, a.Ok) : ∀ a ∈ l.map LA.ra, Small a := fun a ha => by
  obtain ⟨x, hx, rfl⟩ := List.mem_map.1 ha
  exact LA.small (h x hx)

end Go.Proofs.Ytiomelogggilgaa
end

section
/- Walk: Each with a nil function; Join and Count of small atoms. -/
namespace Go.Proofs.Ytiomelogggilgaa
open Go.RowKit Go.Sort

set_option maxHeartbeats 4000000 in
set_option maxRecDepth 100000 in
theorem lfEachNil_z (z : Int) (n : Int) (AA : Option Addr) (AC : Nat) (X : List RA) (w : World) (hA : AtsM w.heap.size w AA X) (hXl : X.length ≤ 9223372036854775807) (hvl : ∀ a ∈ X, a.vs.length ≤ 1000000) (hz : z = if errA n X = 0 then 1 else errA n X) :
    Calls Try.prog 12 #[.int .i64 n, .nilFunc, .slice AA X.length AC] w fun e w' => e = .returned (.tuple #[.int .i64 0, .int .i64 z]) ∧ Below w.heap.size w w' := by
  have HZ := Lib.hid hz
  clear hz
  obtain ⟨W1, hW1⟩ : ∃ W1, W1 = w.alloc (.cells #[.nilFunc] 35) := ⟨_, rfl⟩
  have hr1 : Row W1 w.heap.size 35 [.nilFunc] := by rw [hW1]; exact Row.new w 35 _
  have hx1 : Ext w W1 := by rw [hW1]; exact (Ext.refl w).alloc _
  have HCK := Lib.hid (lfCheck_any n AA AC X W1 (hA.upB hx1.below) hXl hvl)
  have HR1 := Lib.hid hr1
  have HX1 := Lib.hid hx1
  have hwz := hr1.lt
  have heq : ∀ w : World, Sem.run Try.prog (binOp BinOp.eql 35 Value.nilFunc Value.nilFunc) w = .ok (.bool true) w := fun w => by
    rfl
  clear hA hr1 hx1 hvl hXl
  go_enter Try.func12, Try.ntmps12
  go_wp2_with fail
  rw [← hW1]
  clear hW1
  refine HCK.out.mono ?_
  rintro e w2 ⟨rfl, hb2⟩
  have HB2 := Lib.hid (Below.then HX1.out.below hb2 HX1.out.size)
  have hr2 := HR1.out.up hb2
  have y0 : w2.cell? ⟨w.heap.size, 0, none⟩ = some .nilFunc := hr2.cell 0
  have hz2 := hr2.lt
  clear hb2 hr2 HCK HR1
  by_cases he : errA n X = 0
  rotate_left
  · have hnb : (errA n X != 0) = true := by simpa using he
    obtain rfl : z = errA n X := HZ.out.trans (if_neg he)
    clear he
    go_wp2
    go_ret2
    exact ⟨rfl, HB2.out⟩
  have hnb : (errA n X != 0) = false := by simp [he]
  obtain rfl : z = 1 := HZ.out.trans (if_pos he)
  rw [he]
  clear he
  go_wp2
  go_ret2
  exact ⟨rfl, HB2.out⟩
theorem lfEachNil_any (n : Int) (AA : Option Addr) (AC : Nat) (X : List RA) (w : World) (hA : AtsM w.heap.size w AA X) (hXl : X.length ≤ 9223372036854775807) (hvl : ∀ a ∈ X, a.vs.length ≤ 1000000) :
    Calls Try.prog 12 #[.int .i64 n, .nilFunc, .slice AA X.length AC] w fun e w' => e = .returned (.tuple #[.int .i64 0, .int .i64 (if errA n X = 0 then 1 else errA n X)]) ∧ Below w.heap.size w w' := lfEachNil_z _ n AA AC X w hA hXl hvl rfl

theorem cost9 : ∀ m, m < 10 → costN 4 (meetN 64 4) m * 200002 ≤ 100000000000000000 := by decide
theorem joinS_any (n : Int) (AA : Option Addr) (AC : Nat) (X : List RA) (w : World) (hA : AtsM w.heap.size w AA X) (hXl : X.length ≤ 9223372036854775807) (hX : ∀ a ∈ X, Small a) (hn : errA n X = 0 → n ≤ 9) :
    Calls Try.prog 17 #[.int .i64 n, .slice AA X.length AC] w (JoinPost n X w) := by
  by_cases he : errA n X = 0
  · obtain ⟨m, rfl, hg⟩ := Good0.of hX he
    have hm : m < 10 := by have := hn he; omega
    exact lfJoin_any (m : Int) AA AC X 4 w hA hXl (fun a ha => Nat.le_trans (hX a ha).vl (by omega)) (fun a ha => (hX a ha).rel (hg.ok a ha)) (fun _ => cost9 m hm) (fun _ => by
      have := hg.len
      have := pow4_9 (m := m) (by omega)
      rw [Int.toNat_natCast]; omega)
  · exact lfJoin_any n AA AC X 60000 w hA hXl (fun a ha => Nat.le_trans (hX a ha).vl (by omega)) (fun a ha => (hX a ha).rel0) (fun h => absurd h he) (fun h => absurd h he)
theorem countS_any (n : Int) (AA : Option Addr) (AC : Nat) (X : List RA) (w : World) (hA : AtsM w.heap.size w AA X) (hXl : X.length ≤ 9223372036854775807) (hX : ∀ a ∈ X, Small a) (hn : errA n X = 0 → n ≤ 9) :
    Calls Try.prog 23 #[.int .i64 n, .slice AA X.length AC] w (CountPost n X w) := by
  by_cases he : errA n X = 0
  · obtain ⟨m, rfl, hg⟩ := Good0.of hX he
    have hm : m < 10 := by have := hn he; omega
    exact lfCount_any (m : Int) AA AC X 4 w hA hXl (fun a ha => Nat.le_trans (hX a ha).vl (by omega)) (fun a ha => (hX a ha).rel (hg.ok a ha)) (fun _ => cost9 m hm) (fun _ => by
      have := hg.len
      have := pow4_9 (m := m) (by omega)
      rw [Int.toNat_natCast]; omega)
  · exact lfCount_any n AA AC X 60000 w hA hXl (fun a ha => Nat.le_trans (hX a ha).vl (by omega)) (fun a ha => (hX a ha).rel0) (fun h => absurd h he) (fun h => absurd h he)

end Go.Proofs.Ytiomelogggilgaa
end

section
/- Walk: awake of chapter 35's laws. -/
namespace Go.Proofs.Ytiomelogggilgaa
open Go.RowKit Go.Sort

def l0 : List LA := [⟨3, [[1, 2, 0, 0], [1, 3, 0, 0], [2, 3, 0, 0]], 0⟩, ⟨6, [[2, 0, 0, 0], [3, 0, 0, 0]], 0⟩, ⟨5, [[1, 0, 0, 0]], 0⟩]
def j0 : List RL.R := [[valI 1, valI 2, valI 0], [valI 1, valI 3, valI 0]]
theorem l0_ok : ∀ a ∈ l0, a.Ok := by unfold LA.Ok; decide
set_option maxRecDepth 100000 in
theorem l0_err : errA 3 (l0.map LA.ra) = 0 := by decide +kernel
set_option maxRecDepth 100000 in
theorem l0_join : joinF 3 ((l0.map LA.ra).map RA.at) = j0 := by decide +kernel
theorem l0_bytes : LBytes l0 := by
  intro a ha
  simp [l0] at ha
  rcases ha with rfl | rfl | rfl <;> refine ⟨by decide, by decide, ?_⟩ <;> intro t ht <;> simp at ht
  · rcases ht with rfl | rfl | rfl <;> intro k <;> (match k with | 0 | 1 | 2 | 3 => decide | k + 4 => exact (by decide : (0 : Nat) < 256))
  · rcases ht with rfl | rfl <;> intro k <;> (match k with | 0 | 1 | 2 | 3 => decide | k + 4 => exact (by decide : (0 : Nat) < 256))
  · subst ht; intro k; (match k with | 0 | 1 | 2 | 3 => decide | k + 4 => exact (by decide : (0 : Nat) < 256))
def four (t : List Nat) : List Value := [.int .u8 (t.getD 0 0 : Nat), .int .u8 (t.getD 1 0 : Nat), .int .u8 (t.getD 2 0 : Nat), .int .u8 (t.getD 3 0 : Nat)]
theorem slA_row {W : World} {b B : Nat} {T : TypeId} (X : List (List Nat)) (hr : Row W b T (X.flatMap four)) (hb : b < B) : SlA 4 B W (some ⟨b, 0, none⟩) X := fun _ => by
  refine ⟨b, 0, rfl, hb, fun i hi k hk => ?_⟩
  rw [Nat.zero_add]
  refine (hr.cell (i * 4 + k)).trans ((flat_get four 4 (fun _ => rfl) X i k hi hk).trans ?_)
  match k, hk with
  | 0, _ => rfl
  | 1, _ => rfl
  | 2, _ => rfl
  | 3, _ => rfl
def w0_1 (w : World) : World := w.alloc (.cells #[.int .u8 1, .int .u8 2, .int .u8 0, .int .u8 0, .int .u8 1, .int .u8 3, .int .u8 0, .int .u8 0, .int .u8 2, .int .u8 3, .int .u8 0, .int .u8 0] 74)
def w0_2 (w : World) : World := (w0_1 w).alloc (.cells #[.int .u8 2, .int .u8 0, .int .u8 0, .int .u8 0, .int .u8 3, .int .u8 0, .int .u8 0, .int .u8 0] 74)
def w0_3 (w : World) : World := (w0_2 w).alloc (.cells #[.int .u8 1, .int .u8 0, .int .u8 0, .int .u8 0] 74)
def w0_4 (w : World) : World := (w0_3 w).alloc (.cells #[.int .u8 3, .slice (some ⟨w.heap.size, 0, none⟩) 3 3, .int .u8 0, .int .u8 6, .slice (some ⟨w.heap.size + 1, 0, none⟩) 2 2, .int .u8 0, .int .u8 5, .slice (some ⟨w.heap.size + 1 + 1, 0, none⟩) 1 1, .int .u8 0] 72)
theorem w0_ext (w : World) : Ext w (w0_4 w) := ((((Ext.refl w).alloc _).alloc _).alloc _).alloc _
theorem w0_mem (w : World) : AtsL (w0_4 w).heap.size (w0_4 w) (some ⟨w.heap.size + 1 + 1 + 1, 0, none⟩) l0 := fun _ => by
  have r1 : Row (w0_1 w) w.heap.size 74 ([[1, 2, 0, 0], [1, 3, 0, 0], [2, 3, 0, 0]].flatMap four) := Row.new w 74 _
  have r2 : Row (w0_2 w) (w.heap.size + 1) 74 ([[2, 0, 0, 0], [3, 0, 0, 0]].flatMap four) := by
    have h := Row.new (w0_1 w) 74 ([[2, 0, 0, 0], [3, 0, 0, 0]].flatMap four)
    rw [show (w0_1 w).heap.size = w.heap.size + 1 by unfold w0_1; simp] at h
    exact h
  have r3 : Row (w0_3 w) (w.heap.size + 1 + 1) 74 ([[1, 0, 0, 0]].flatMap four) := by
    have h := Row.new (w0_2 w) 74 ([[1, 0, 0, 0]].flatMap four)
    rw [show (w0_2 w).heap.size = w.heap.size + 1 + 1 by unfold w0_2 w0_1; simp] at h
    exact h
  have r4 : Row (w0_4 w) (w.heap.size + 1 + 1 + 1) 72 [.int .u8 3, .slice (some ⟨w.heap.size, 0, none⟩) 3 3, .int .u8 0, .int .u8 6, .slice (some ⟨w.heap.size + 1, 0, none⟩) 2 2, .int .u8 0, .int .u8 5, .slice (some ⟨w.heap.size + 1 + 1, 0, none⟩) 1 1, .int .u8 0] := by
    have h := Row.new (w0_3 w) 72 [.int .u8 3, .slice (some ⟨w.heap.size, 0, none⟩) 3 3, .int .u8 0, .int .u8 6, .slice (some ⟨w.heap.size + 1, 0, none⟩) 2 2, .int .u8 0, .int .u8 5, .slice (some ⟨w.heap.size + 1 + 1, 0, none⟩) 1 1, .int .u8 0]
    rw [show (w0_3 w).heap.size = w.heap.size + 1 + 1 + 1 by unfold w0_3 w0_2 w0_1; simp] at h
    exact h
  have x12 : Ext (w0_1 w) (w0_2 w) := (Ext.refl _).alloc _
  have x23 : Ext (w0_2 w) (w0_3 w) := (Ext.refl _).alloc _
  have x34 : Ext (w0_3 w) (w0_4 w) := (Ext.refl _).alloc _
  have hz : (w0_4 w).heap.size = w.heap.size + 1 + 1 + 1 + 1 := by unfold w0_4 w0_3 w0_2 w0_1; simp
  refine ⟨w.heap.size + 1 + 1 + 1, 0, rfl, by omega, fun i hi => ?_⟩
  match i, hi with
  | 0, _ => exact ⟨some ⟨w.heap.size, 0, none⟩, 3, r4.cell 0, r4.cell 1, r4.cell 2, slA_row _ ((r1.up x12.below).up (x23.trans x34).below) (by omega)⟩
  | 1, _ => exact ⟨some ⟨w.heap.size + 1, 0, none⟩, 2, r4.cell 3, r4.cell 4, r4.cell 5, slA_row _ (r2.up (x23.trans x34).below) (by omega)⟩
  | 2, _ => exact ⟨some ⟨w.heap.size + 1 + 1, 0, none⟩, 1, r4.cell 6, r4.cell 7, r4.cell 8, slA_row _ (r3.up x34.below) (by omega)⟩
  | i + 3, hi => exact absurd hi (by show ¬ i + 3 < 3; omega)
theorem made0_any (w : World) : Calls Try.prog 10 #[.slice (some ⟨w.heap.size + 1 + 1 + 1, 0, none⟩) 3 3] (w0_4 w) fun e w' => ∃ A1 C1 A2 C2 A3 C3, e = .returned (.tuple #[.slice A1 3 C1, .slice A2 3 C2, .slice A3 3 C3, .bool true]) ∧ AtsM w'.heap.size w' A1 (l0.map LA.ra) ∧ Below w.heap.size w w' :=
  (l35Made_any (some ⟨w.heap.size + 1 + 1 + 1, 0, none⟩) 3 l0 (w0_4 w) (w0_mem w) l0_bytes (by decide)).mono fun e w' ⟨h1, _, hb⟩ => by
    obtain ⟨A1, C1, A2, C2, A3, C3, he, _, _, _, _, _, _, ha, _, _⟩ := h1 l0_ok
    exact ⟨A1, C1, A2, C2, A3, C3, he, ha, Below.then (w0_ext w).below hb (w0_ext w).size⟩
theorem join0_any (A : Option Addr) (C : Nat) (w : World) (hA : AtsM w.heap.size w A (l0.map LA.ra)) : Calls Try.prog 17 #[.int .i64 3, .slice A 3 C] w fun e w' => ∃ A' C' st, e = .returned (.tuple #[.slice A' 2 C', .int .i64 (st : Nat), .int .i64 0]) ∧ 2 ≤ st ∧ st ≤ 8000000000000000000 ∧ SlRs w'.heap.size w' A' j0 ∧ Below w.heap.size w w' :=
  (joinS_any 3 A C (l0.map LA.ra) w hA (by decide) (LA.smalls l0_ok) (fun _ => by decide)).mono fun e w' ⟨_, hb, h⟩ => by
    obtain ⟨A', C', st, he, h1, h2, _, _, hs⟩ := h l0_err
    rw [show (3 : Int).toNat = 3 from rfl, l0_join] at he h1 hs
    exact ⟨A', C', st, he, h1, h2, hs, hb⟩

set_option maxHeartbeats 4000000 in
set_option maxRecDepth 100000 in
theorem l35awake_any (w : World) : Calls Try.prog 11 #[] w fun e w' => e = .returned (.bool true) ∧ Below w.heap.size w w' := by
  have HM := Lib.hid (made0_any w)
  go_enter Try.func11, Try.ntmps11
  go_wp2_with fail
  refine HM.out.mono ?_
  rintro e w1 ⟨A1, C1, A2, C2, A3, C3, rfl, ha, hb1⟩
  have HB1 := Lib.hid hb1
  have HJ := Lib.hid (join0_any A1 C1 w1 ha)
  clear ha hb1 HM
  go_wp2_with fail
  refine HJ.out.mono ?_
  rintro e w2 ⟨A', C', st, rfl, hs1, hs2, hs, hb2⟩
  have HB2 := Lib.hid (Below.then HB1.out hb2 HB1.out.size)
  obtain ⟨b, o, D0, E0, rfl, hbz, c0, hc0, hm0, s0⟩ := slRs_at hs (i := 0) (by decide)
  obtain ⟨b', o', D1, E1, eb, _, c1, hc1, hm1, s1⟩ := slRs_at hs (i := 1) (by decide)
  injection eb with eb
  injection eb with e1 e2
  subst e1 e2
  obtain ⟨b0, o0, rfl, hb0, -, d0, -⟩ := slR_at s0 (i := 1) (by decide)
  obtain ⟨b1, o1, rfl, hb1, -, d1, -⟩ := slR_at s1 (i := 1) (by decide)
  have k0 : w2.cell? ⟨b, o, none⟩ = some (.slice (some ⟨b0, o0, none⟩) 3 E0) := c0
  have k1 : w2.cell? ⟨b, o + 1, none⟩ = some (.slice (some ⟨b1, o1, none⟩) 3 E1) := c1
  have k2 : w2.cell? ⟨b0, o0 + 3 + 1, none⟩ = some (.int .i64 2) := d0
  have k3 : w2.cell? ⟨b1, o1 + 3 + 1, none⟩ = some (.int .i64 3) := d1
  have hst : decide ((2 : Int) ≤ (st : Int)) = true := decide_eq_true (by omega)
  clear hs s0 s1 c0 c1 d0 d1 hb2 HJ hc0 hc1
  go_wp2
  go_ret
  exact ⟨rfl, HB2.out⟩

end Go.Proofs.Ytiomelogggilgaa
end

section
/- Walk: the reference's Wrong. -/
namespace Go.Proofs.Ytiomelogggilgaa
open Go.RowKit Go.Sort

theorem usedB_at {m : Nat} {S : List Int} {v : Nat} (hv : v < m) : ((usedB m S).map Value.bool)[v]? = some (.bool (decide ((v : Int) ∈ S))) := by
  rw [List.getElem?_map, List.getElem?_eq_getElem (by simp [usedB]; exact hv)]
  simp [usedB]

set_option maxHeartbeats 8000000 in
set_option maxRecDepth 100000 in
theorem r35Wrong_any (n : Int) (AA ZA : Option Addr) (AC ZC : Nat) (X : List RA) (w : World) (hA : AtsR w.heap.size w AA X) (hZ : SlI .i64 w.heap.size w ZA (X.map (·.ar))) (hXl : X.length ≤ 1000000) (hvl : ∀ a ∈ X, a.vs.length ≤ 1000000) :
    Calls Try.prog 14 #[.int .i64 n, .slice AA X.length AC, .slice ZA X.length ZC] w fun e w' => e = .returned (.int .i64 (errA n X)) ∧ Below w.heap.size w w' := by
  have HA := Lib.hid hA
  have HZ := Lib.hid hZ
  have HVL := Lib.hid hvl
  clear hA hZ hvl
  by_cases hn0 : n < 0
  · have HE : Hid (errA n X = 3) := by show _ = _; unfold errA; rw [if_pos (.inl hn0)]
    have hd : decide (n < 0) = true := decide_eq_true hn0
    go_enter Try.func14, Try.ntmps14
    go_wp2
    go_ret
    exact ⟨by rw [HE.out]; rfl, Below.refl _ _⟩
  by_cases hn1 : 32 < n
  · have HE : Hid (errA n X = 3) := by show _ = _; unfold errA; rw [if_pos (.inr hn1)]
    have hd : decide (n < 0) = false := decide_eq_false hn0
    have hd2 : decide (32 < n) = true := decide_eq_true hn1
    go_enter Try.func14, Try.ntmps14
    go_wp2
    go_ret
    exact ⟨by rw [HE.out]; rfl, Below.refl _ _⟩
  by_cases hX : 32 < X.length
  · have HE : Hid (errA n X = 12) := by show _ = _; unfold errA; rw [if_neg (by omega), if_pos hX]
    have hd : decide (n < 0) = false := decide_eq_false hn0
    have hd2 : decide (32 < n) = false := decide_eq_false hn1
    have hd3 : decide ((32 : Int) < (X.length : Int)) = true := decide_eq_true (by omega)
    go_enter Try.func14, Try.ntmps14
    go_wp2
    go_ret
    exact ⟨by rw [HE.out]; rfl, Below.refl _ _⟩
  obtain ⟨m, rfl⟩ : ∃ m : Nat, n = (m : Int) := ⟨n.toNat, by omega⟩
  have hm32 : m ≤ 32 := by omega
  have HN : Hid (¬ ((m : Int) < 0 ∨ 32 < (m : Int))) := fun h => by omega
  have hd : decide ((m : Int) < 0) = false := decide_eq_false hn0
  have hd2 : decide (32 < (m : Int)) = false := decide_eq_false hn1
  have hd3 : decide ((32 : Int) < (X.length : Int)) = false := decide_eq_false (by omega)
  obtain ⟨W1, hW1⟩ : ∃ W1, W1 = w.alloc (.cells #[.bool false, .bool false, .bool false, .bool false, .bool false, .bool false, .bool false, .bool false, .bool false, .bool false, .bool false, .bool false, .bool false, .bool false, .bool false, .bool false, .bool false, .bool false, .bool false, .bool false, .bool false, .bool false, .bool false, .bool false, .bool false, .bool false, .bool false, .bool false, .bool false, .bool false, .bool false, .bool false] 82) := ⟨_, rfl⟩
  have hr1 : Row W1 w.heap.size 82 ((usedB 32 []).map Value.bool) := by rw [hW1, usedB_nil]; exact Row.new w 82 _
  have hx1 : Ext w W1 := by rw [hW1]; exact (Ext.refl w).alloc _
  have HR1 := Lib.hid hr1
  have HX1 := Lib.hid hx1
  clear hr1 hx1
  have HUL : Hid (∀ S, (usedB 32 S).length = 32) := fun S => by simp [usedB]
  go_enter Try.func14, Try.ntmps14
  go_wp2
  rw [← hW1]
  clear hW1 hn0 hn1 hd hd2 hd3
  go_loopw [8] (fun c wr => ∃ k : Nat, k ≤ X.length ∧ c = .int .i64 k ∧ Row wr w.heap.size 82 ((usedB 32 ((X.take k).flatMap (·.vs))).map Value.bool) ∧ Below w.heap.size w wr ∧ ∀ j (hj : j < X.length), j < k → errAt m X[j] = 0) (fun c _ => X.length - (intOf c).toNat)
  case atStart => exact ⟨0, Nat.zero_le _, rfl, HR1.out, HX1.out.below, fun j _ h => absurd h (by omega)⟩
  case round =>
    obtain ⟨k, hk, rfl, hrow, hbw, hall⟩ := hrel
    have HROW := Lib.hid hrow
    have HBW := Lib.hid hbw
    have HALL := Lib.hid hall
    clear hrow hbw hall HR1
    by_cases h1 : k < X.length
    · obtain ⟨b, o, VA, VC, PA, PC, rfl, hbl, c0, -, -, -, -, -, q5, -⟩ := atsR_at HA.out h1
      have HC0 := Lib.hid c0
      have c0 := (HBW.out.cell (p := ⟨b, o + k * 2, none⟩) hbl).trans c0
      have hb := Nat.lt_of_lt_of_le hbl HBW.out.size
      have hvl := HVL.out _ (List.getElem_mem h1)
      have HVS := Lib.hid q5
      obtain ⟨zb, zo, hza, hzbl, zc⟩ := slI_at HZ.out (show k < (X.map (·.ar)).length by rw [List.length_map]; exact h1)
      rw [List.getElem_map] at zc
      subst hza
      have zc := (HBW.out.cell (p := ⟨zb, zo + k, none⟩) hzbl).trans zc
      have hzb := Nat.lt_of_lt_of_le hzbl HBW.out.size
      have HTK : Hid ((X.take (k + 1)).flatMap (·.vs) = (X.take k).flatMap (·.vs) ++ X[k].vs) := by
        show _ = _
        rw [List.take_succ_eq_append_getElem h1, List.flatMap_append, List.flatMap_singleton]
      have HERR : Hid (errAt m X[k] ≠ 0 → errA m X = errAt m X[k]) := fun hne => errA_at HN.out hX h1 HALL.out hne
      have HNX : Hid (errAt m X[k] = 0 → ∀ j (hj : j < X.length), j < k + 1 → errAt m X[j] = 0) := fun h0 j hj hlt => by
        rcases Nat.lt_or_ge j k with h | h
        · exact HALL.out j hj h
        · have : j = k := by omega
          subst this
          exact h0
      clear q5
      generalize X[k] = r at *
      have g1 : (0 : Int) ≤ (k : Int) := by omega
      have g2 : (k : Int) < (X.length : Int) := by omega
      have hw1 : IntKind.i64.wrap ((k : Int) + 1) = ((k + 1 : Nat) : Int) := by rw [IntWalk.i64_in _ (by omega)]; omega
      obtain ⟨wo, hwo⟩ : ∃ wo, wo = wr := ⟨_, rfl⟩
      subst hwo
      go_wp2_with fail
      go_loopw [9] (fun c wx => ∃ i : Nat, 1 ≤ i ∧ c = .int .i64 i ∧ (∀ p (h : p + 1 < r.vs.length), p + 1 < i → r.vs[p] < r.vs[p + 1]) ∧ Ext wo wx) (fun c _ => r.vs.length - (intOf c).toNat)
      case atStart => exact ⟨1, Nat.le_refl _, rfl, fun p _ h => absurd h (by omega), Ext.refl _⟩
      case round =>
        obtain ⟨i, hi1, rfl, hasc, hxi⟩ := hrel
        have HASC := Lib.hid hasc
        have HXI := Lib.hid hxi
        have c0 := (hxi.cell (o := o + k * 2) hb).trans c0
        have zc := (hxi.cell (o := zo + k) hzb).trans zc
        have hb := Nat.lt_of_lt_of_le hb hxi.size
        have hzb := Nat.lt_of_lt_of_le hzb hxi.size
        have HBX := Lib.hid (Below.trans HBW.out (hxi.below.mono HBW.out.size))
        clear hasc hxi
        by_cases h2 : i < r.vs.length
        · obtain ⟨vb, vo, hva, hvb, va⟩ := slI_at HVS.out (show i - 1 < r.vs.length by omega)
          obtain ⟨vb2, vo2, hva2, -, vc⟩ := slI_at HVS.out h2
          rw [hva] at hva2
          injection hva2 with hva2
          injection hva2 with e1 e2
          subst e1 e2 hva
          have va := (HBX.out.cell (p := ⟨vb, vo + (i - 1), none⟩) hvb).trans va
          have vc := (HBX.out.cell (p := ⟨vb, vo + i, none⟩) hvb).trans vc
          have hvb2 := Nat.lt_of_lt_of_le hvb HBX.out.size
          have HG : Hid (r.vs[i] ≤ r.vs[i - 1] → errAt m r = 16) := fun hge => by
            refine errAt_order (p := i - 1) (by omega) ?_
            have e : i - 1 + 1 = i := by omega
            simp only [e]
            exact hge
          have HL : Hid (¬ r.vs[i] ≤ r.vs[i - 1] → ∀ p (h : p + 1 < r.vs.length), p + 1 < i + 1 → r.vs[p] < r.vs[p + 1]) := fun hlt p h hp => by
            rcases Nat.lt_or_ge (p + 1) i with h3 | h3
            · exact HASC.out p h h3
            · have : i = p + 1 := by omega
              subst this
              have e : p + 1 - 1 = p := by omega
              simp only [e] at hlt
              omega
          generalize r.vs[i] = y at *
          generalize r.vs[i - 1] = z at *
          have hws : IntKind.i64.wrap ((i : Int) - 1) = ((i - 1 : Nat) : Int) := by rw [IntWalk.i64_in _ (by omega)]; omega
          have hwi : IntKind.i64.wrap ((i : Int) + 1) = ((i + 1 : Nat) : Int) := by rw [IntWalk.i64_in _ (by omega)]; omega
          have g3 : (0 : Int) ≤ ((i - 1 : Nat) : Int) := by omega
          have g4 : ((i - 1 : Nat) : Int) < (r.vs.length : Int) := by omega
          have g5 : (0 : Int) ≤ (i : Int) := by omega
          have g6 : (i : Int) < (r.vs.length : Int) := by omega
          by_cases hge : y ≤ z
          · have hdd : decide (y ≤ z) = true := decide_eq_true hge
            have HE := Lib.hid (HERR.out (by rw [HG.out hge]; decide))
            have HE2 := Lib.hid (HG.out hge)
            go_wp2
            go_quiet (fail)
            go_wp2
            go_ret
            exact ⟨by rw [HE.out, HE2.out]; rfl, Below.then HBX.out ((Ext.refl wr).drewN _).below HBX.out.size⟩
          · have hdd : decide (y ≤ z) = false := decide_eq_false hge
            have HL2 := Lib.hid (HL.out hge)
            clear HG HL
            go_wp2
            go_quiet (fail)
            go_wp2
            go_roundw
            case rel => exact ⟨i + 1, by omega, by go_num, HL2.out, HXI.out.drewN _⟩
            case measure => simp [intOf]; omega
        have HP : Hid (r.vs.Pairwise (· < ·)) := pairwise_adj _ fun p h => HASC.out p h (by omega)
        have HRW : Hid (Row wr w.heap.size 82 ((usedB 32 ((X.take k).flatMap (·.vs))).map Value.bool)) := HROW.out.up HXI.out.below
        obtain ⟨wp, hwp⟩ : ∃ wp, wp = wr := ⟨_, rfl⟩
        subst hwp
        clear HASC
        go_wp2_with fail
        go_loopw [10] (fun c wx => ∃ j : Nat, j ≤ r.vs.length ∧ c = .int .i64 j ∧ (∀ v ∈ r.vs.take j, 0 ≤ v ∧ v < (m : Int)) ∧ wx = wp) (fun c _ => r.vs.length - (intOf c).toNat)
        case atStart => exact ⟨0, Nat.zero_le _, rfl, fun v hv => by simp at hv, rfl⟩
        case round =>
          obtain ⟨j, hj, rfl, hrg, rfl⟩ := hrel
          have HRG := Lib.hid hrg
          clear hrg
          by_cases h3 : j < r.vs.length
          · obtain ⟨vb, vo, hva, hvb, vc⟩ := slI_at HVS.out h3
            subst hva
            have vc := (HBX.out.cell (p := ⟨vb, vo + j, none⟩) hvb).trans vc
            have hvb2 := Nat.lt_of_lt_of_le hvb HBX.out.size
            have HVM : Hid (r.vs[j] ∈ r.vs) := List.getElem_mem h3
            have HTJ : Hid (r.vs.take (j + 1) = r.vs.take j ++ [r.vs[j]]) := List.take_succ_eq_append_getElem h3
            generalize r.vs[j] = v at *
            have g3 : (0 : Int) ≤ (j : Int) := by omega
            have g4 : (j : Int) < (r.vs.length : Int) := by omega
            have hwj : IntKind.i64.wrap ((j : Int) + 1) = ((j + 1 : Nat) : Int) := by rw [IntWalk.i64_in _ (by omega)]; omega
            by_cases hv0 : v < 0
            · have hE2 := errAt_range HP.out HVM.out (.inl hv0 : v < 0 ∨ (m : Int) ≤ v)
              have HE := Lib.hid (HERR.out (by rw [hE2]; decide))
              have HE2 := Lib.hid hE2
              have hdd : decide (v < 0) = true := decide_eq_true hv0
              clear hE2
              go_wp2
              go_ret
              exact ⟨by rw [HE.out, HE2.out]; rfl, HBX.out⟩
            by_cases hvm : (m : Int) ≤ v
            · have hE2 := errAt_range HP.out HVM.out (.inr hvm : v < 0 ∨ (m : Int) ≤ v)
              have HE := Lib.hid (HERR.out (by rw [hE2]; decide))
              have HE2 := Lib.hid hE2
              have hdd : decide (v < 0) = false := decide_eq_false hv0
              have hdd2 : decide ((m : Int) ≤ v) = true := decide_eq_true hvm
              clear hE2
              go_wp2
              go_ret
              exact ⟨by rw [HE.out, HE2.out]; rfl, HBX.out⟩
            have hdd : decide (v < 0) = false := decide_eq_false hv0
            have hdd2 : decide ((m : Int) ≤ v) = false := decide_eq_false hvm
            have HV2 : Hid (0 ≤ v ∧ v < (m : Int)) := ⟨by omega, by omega⟩
            clear hv0 hvm
            go_wp2
            go_roundw
            case rel =>
              refine ⟨j + 1, h3, by go_num, fun v hv => ?_, by first | rfl | trivial⟩
              rw [HTJ.out] at hv
              rcases List.mem_append.1 hv with h | h
              · exact HRG.out v h
              · simp at h; subst h; exact HV2.out
            case measure => simp [intOf]; omega
          have HRALL : Hid (∀ v ∈ r.vs, 0 ≤ v ∧ v < (m : Int)) := fun v hv => HRG.out v (by rw [List.take_of_length_le (by omega)]; exact hv)
          have HEA : Hid (errAt m r = if (r.vs.length : Int) = r.ar then 0 else 6) := errAt_arity HP.out HRALL.out
          clear HRG
          by_cases he : (r.vs.length : Int) = r.ar
          rotate_left
          · have hnb : ((r.vs.length : Int) != r.ar) = true := by simpa using he
            have HE := Lib.hid (HERR.out (by rw [HEA.out, if_neg he]; decide))
            have HE2 := Lib.hid (HEA.out.trans (if_neg he))
            clear he
            go_wp2
            go_quiet (fail)
            go_wp2
            go_ret
            exact ⟨by rw [HE.out, HE2.out]; rfl, Below.then HBX.out ((Ext.refl wr).drewN _).below HBX.out.size⟩
          have HZ0 := Lib.hid (HNX.out (by rw [HEA.out, if_pos he]))
          have hnb : ((r.vs.length : Int) != r.ar) = false := by simp [he]
          clear he HERR HNX HEA
          obtain ⟨wq, hwq⟩ : ∃ wq, wq = wr := ⟨_, rfl⟩
          subst hwq
          go_wp2_with fail
          go_quiet (fail)
          go_wp2_with fail
          go_loopw [11] (fun c wx => ∃ j : Nat, j ≤ r.vs.length ∧ c = .int .i64 j ∧ Row wx w.heap.size 82 ((usedB 32 ((X.take k).flatMap (·.vs) ++ r.vs.take j)).map Value.bool) ∧ Below w.heap.size w wx) (fun c _ => r.vs.length - (intOf c).toNat)
          case atStart => exact ⟨0, Nat.zero_le _, rfl, by rw [List.take_zero, List.append_nil]; exact HRW.out.up ((Ext.refl wq).drewN _).below, Below.then HBX.out ((Ext.refl wq).drewN _).below HBX.out.size⟩
          case round =>
            obtain ⟨j, hj, rfl, hrow, hbj⟩ := hrel
            have HROWJ := Lib.hid hrow
            have HBJ := Lib.hid hbj
            have hwz := hrow.lt
            have hzj := hbj.size
            clear hrow hbj c0 zc
            have c0 := (HBJ.out.cell (p := ⟨b, o + k * 2, none⟩) hbl).trans HC0.out
            have hb := Nat.lt_of_lt_of_le hbl hzj
            by_cases h3 : j < r.vs.length
            · obtain ⟨vb, vo, hva, hvb, vc⟩ := slI_at HVS.out h3
              subst hva
              have vc := (HBJ.out.cell (p := ⟨vb, vo + j, none⟩) hvb).trans vc
              have hvb2 := Nat.lt_of_lt_of_le hvb hzj
              have hvr := HRALL.out _ (List.getElem_mem h3)
              have HTJ : Hid (r.vs.take (j + 1) = r.vs.take j ++ [r.vs[j]]) := List.take_succ_eq_append_getElem h3
              generalize r.vs[j] = v at *
              have g3 : (0 : Int) ≤ (j : Int) := by omega
              have g4 : (j : Int) < (r.vs.length : Int) := by omega
              have hwj : IntKind.i64.wrap ((j : Int) + 1) = ((j + 1 : Nat) : Int) := by rw [IntWalk.i64_in _ (by omega)]; omega
              obtain ⟨y, rfl⟩ : ∃ y : Nat, v = (y : Int) := ⟨v.toNat, by omega⟩
              have hy32 : y < 32 := by omega
              have g5 : (0 : Int) ≤ (y : Int) := by omega
              have g6 : (y : Int) < 32 := by omega
              obtain ⟨uc, hu⟩ : ∃ uc, wr.cell? ⟨w.heap.size, y, none⟩ = some uc := ⟨_, HROWJ.out.cell_ (by rw [List.length_map, HUL.out]; exact hy32)⟩
              have hf := HROWJ.out.frozen y
              go_wp2
              go_roundw
              case rel =>
                refine ⟨j + 1, h3, by go_num, ?_, HBJ.out.setCell (Nat.le_refl _) _⟩
                rw [HTJ.out, ← List.append_assoc, ← usedB_set hy32, List.map_set]
                exact HROWJ.out.set _ _
              case measure => simp [intOf]; omega
            have HJE : Hid (j = r.vs.length) := by show _ = _; omega
            have HUS : Hid (Row wr w.heap.size 82 ((usedB 32 ((X.take (k + 1)).flatMap (·.vs))).map Value.bool)) := by
              have h := HROWJ.out
              rw [HJE.out, List.take_length, ← HTK.out] at h
              exact h
            go_wp2
            go_roundw
            case rel => exact ⟨k + 1, h1, by go_num, HUS.out, HBJ.out, HZ0.out⟩
            case measure => simp [intOf]; omega
    have HKE : Hid (k = X.length) := by show _ = _; omega
    have HEND : Hid (errA m X = if (List.range m).any (fun v => X.all fun a => decide ((v : Int) ∉ a.vs)) then 22 else 0) := by
      have h := errA_end HN.out hX (fun j hj => HALL.out j hj (by rw [HKE.out]; exact hj))
      rw [Int.toNat_natCast] at h
      exact h
    have HR : Hid (Row wr w.heap.size 82 ((usedB 32 (X.flatMap (·.vs))).map Value.bool)) := by
      have h := HROW.out
      rw [HKE.out, List.take_length] at h
      exact h
    have hwz := HROW.out.lt
    obtain ⟨wq, hwq⟩ : ∃ wq, wq = wr := ⟨_, rfl⟩
    subst hwq
    clear HALL HROW
    go_wp2_with fail
    go_loopw [12] (fun c wx => ∃ v : Nat, v ≤ m ∧ c = .int .i64 v ∧ (∀ u : Nat, u < v → (u : Int) ∈ X.flatMap (·.vs)) ∧ wx = wq) (fun c _ => m - (intOf c).toNat)
    case atStart => exact ⟨0, Nat.zero_le _, rfl, fun u h => absurd h (by omega), rfl⟩
    case round =>
      obtain ⟨v, hv, rfl, hin, rfl⟩ := hrel
      have HIN := Lib.hid hin
      clear hin
      by_cases h2 : v < m
      · have hc := (HR.out.cell v).trans (usedB_at (m := 32) (S := X.flatMap (·.vs)) (by omega : v < 32))
        have g5 : (0 : Int) ≤ (v : Int) := by omega
        have g6 : (v : Int) < 32 := by omega
        have hwv : IntKind.i64.wrap ((v : Int) + 1) = ((v + 1 : Nat) : Int) := by rw [IntWalk.i64_in _ (by omega)]; omega
        by_cases hm : (v : Int) ∈ X.flatMap (·.vs)
        · rw [decide_eq_true hm] at hc
          have HMI : Hid ((v : Int) ∈ X.flatMap (·.vs)) := hm
          clear hm
          go_wp2
          go_roundw
          case rel =>
            refine ⟨v + 1, h2, by go_num, fun u hu => ?_, by first | rfl | trivial⟩
            rcases Nat.lt_or_ge u v with h | h
            · exact HIN.out u h
            · have : u = v := by omega
              subst this
              exact HMI.out
          case measure => simp [intOf]; omega
        · rw [decide_eq_false hm] at hc
          have HE : Hid (errA m X = 22) := by
            show _ = _
            rw [HEND.out, if_pos (List.any_eq_true.2 ⟨v, List.mem_range.2 h2, List.all_eq_true.2 fun a ha => (by rw [decide_eq_true_iff]; exact fun hva => hm (List.mem_flatMap.2 ⟨a, ha, hva⟩))⟩)]
          clear hm
          go_wp2
          go_ret
          exact ⟨by rw [HE.out]; rfl, HBW.out⟩
      · have HE : Hid (errA m X = 0) := by
          show _ = _
          rw [HEND.out, if_neg]
          intro h
          obtain ⟨u, hu, hall⟩ := List.any_eq_true.1 h
          obtain ⟨a, ha, hm⟩ := List.mem_flatMap.1 (HIN.out u (by have := List.mem_range.1 hu; omega))
          exact of_decide_eq_true (List.all_eq_true.1 hall a ha) hm
        go_wp2
        go_ret
        exact ⟨by rw [HE.out]; rfl, HBW.out⟩

end Go.Proofs.Ytiomelogggilgaa
end

section
/- Walk: LeapfrogChecks. -/
namespace Go.Proofs.Ytiomelogggilgaa
open Go.RowKit Go.Sort

/-- What Made leaves, for the laws. -/
def MadeX (w : World) (e : Ending) (w' : World) : Prop :=
  Below w.heap.size w w' ∧ (e = .returned (.tuple #[.slice none 0 0, .slice none 0 0, .slice none 0 0, .bool false]) ∨ ∃ (X : List RA) (A1 A2 A3 : Option Addr) (C1 C2 C3 : Nat), e = .returned (.tuple #[.slice A1 X.length C1, .slice A2 X.length C2, .slice A3 X.length C3, .bool (decide (X.length ≤ 6))]) ∧
    (∀ a ∈ X, Small a) ∧ X.length ≤ C1 ∧ C1 ≤ 9223372036854775807 ∧ AtsM w'.heap.size w' A1 X ∧ AtsR w'.heap.size w' A2 X ∧ SlI .i64 w'.heap.size w' A3 (X.map (·.ar)))
theorem l35Made2 (A : Option Addr) (C : Nat) (l : List LA) (w : World) (hA : AtsL w.heap.size w A l) (hB : LBytes l) (hl : l.length ≤ 3518437208780) :
    Calls Try.prog 10 #[.slice A l.length C] w (MadeX w) := (l35Made_any A C l w hA hB hl).mono fun e w' ⟨h1, h2, hb⟩ => by
  refine ⟨hb, ?_⟩
  by_cases h : ∀ a ∈ l, a.Ok
  · obtain ⟨A1, C1, A2, C2, A3, C3, he, c1, d1, -, -, -, -, ha, hr, hz⟩ := h1 h
    refine .inr ⟨l.map LA.ra, A1, A2, A3, C1, C2, C3, ?_, LA.smalls h, ?_, d1, ha, hr, ?_⟩
    · rw [List.length_map]; exact he
    · rw [List.length_map]; exact c1
    · rw [List.map_map]; exact hz
  · exact .inl (h2 h)
theorem vls {X : List RA} (h : ∀ a ∈ X, Small a) : ∀ a ∈ X, a.vs.length ≤ 1000000 := fun a ha => Nat.le_trans (h a ha).vl (by omega)

set_option maxHeartbeats 4000000 in
set_option maxRecDepth 100000 in
theorem l35Checks_any (n : Int) (A : Option Addr) (C : Nat) (l : List LA) (w : World) (hA : AtsL w.heap.size w A l) (hB : LBytes l) (hl : l.length ≤ 3518437208780) :
    Calls Try.prog 7 #[.int .i64 n, .slice A l.length C] w fun e w' => e = .returned (.bool true) ∧ Below w.heap.size w w' := by
  have HMK := Lib.hid (l35Made2 A C l w hA hB hl)
  clear hA hB hl
  go_enter Try.func7, Try.ntmps7
  go_wp2_with fail
  refine HMK.out.mono ?_
  rintro e w1 ⟨hb1, rfl | ⟨X, A1, A2, A3, C1, C2, C3, rfl, hX, hc1, hd1, ha, hr, hz⟩⟩
  · clear HMK
    go_wp2_with fail
    refine (l35awake_any _).mono ?_
    rintro e w2 ⟨rfl, hb2⟩
    have hbw := Below.then hb1 hb2 hb1.size
    clear hb1 hb2
    go_wp2
    go_ret
    exact ⟨rfl, hbw⟩
  have HB1 := Lib.hid hb1
  by_cases h6 : X.length ≤ 6
  rotate_left
  · rw [decide_eq_false h6]
    clear HMK hX hc1 hd1 ha hr hz hb1
    go_wp2_with fail
    refine (l35awake_any _).mono ?_
    rintro e w2 ⟨rfl, hb2⟩
    have hbw := Below.then HB1.out hb2 HB1.out.size
    clear hb2
    go_wp2
    go_ret
    exact ⟨rfl, hbw⟩
  rw [decide_eq_true h6]
  have HA := Lib.hid ha
  have HX := Lib.hid hX
  have HW := Lib.hid (r35Wrong_any n A2 A3 C2 C3 X w1 hr hz (by omega) (vls hX))
  clear HMK hX hc1 hd1 ha hr hz hb1
  go_wp2_with fail
  refine HW.out.mono ?_
  rintro e w2 ⟨rfl, hb2⟩
  have HB2 := Lib.hid (Below.then HB1.out hb2 HB1.out.size)
  have HA2 := Lib.hid (HA.out.upB hb2)
  clear HW hb2
  have HJ := Lib.hid (fun (hn : errA n X = 0 → n ≤ 9) => joinS_any n A1 C1 X w2 HA2.out (by omega) HX.out hn)
  have HC := Lib.hid (fun (hn : errA n X = 0 → n ≤ 9) W (hb : Below w2.heap.size w2 W) => countS_any n A1 C1 X W (HA2.out.upB hb) (by omega) HX.out hn)
  have HK := Lib.hid (fun W (hb : Below w2.heap.size w2 W) => lfCheck_any n A1 C1 X W (HA2.out.upB hb) (by omega) (vls HX.out))
  have HFIN := Lib.hid (fun W (hb : Below w2.heap.size w2 W) => (l35awake_any W).mono fun e W' h => (⟨h.1, Below.then HB2.out (Below.then hb h.2 hb.size) HB2.out.size⟩ : e = .returned (.bool true) ∧ Below w.heap.size w W'))
  clear HA HX
  by_cases he : errA n X = 0
  · by_cases h8 : 8 < n
    · rw [he]
      clear HJ HC HK he
      go_wp2_with fail
      refine (HFIN.out w2 (Below.refl _ _)).mono ?_
      rintro e w3 ⟨rfl, hb3⟩
      go_wp2
      go_ret
      exact ⟨rfl, hb3⟩
    · have HJ := Lib.hid (HJ.out fun _ => by omega)
      have HC := Lib.hid (HC.out fun _ => by omega)
      have HE := Lib.hid he
      rw [he]
      clear he
      go_wp2_with fail
      refine HJ.out.mono ?_
      rintro e w3 ⟨-, hb3, h3⟩
      obtain ⟨A', C', st, rfl, -, hst, -, -, -⟩ := h3 HE.out
      have HB3 := Lib.hid hb3
      generalize (joinF n.toNat (X.map RA.at)).length = L
      clear h3 hb3
      go_wp2_with fail
      refine (HC.out w3 HB3.out).mono ?_
      rintro e w4 ⟨-, hb4, h4⟩
      obtain ⟨B', st', rfl, -, hst'⟩ := h4 HE.out
      have HB4 := Lib.hid (Below.then HB3.out hb4 HB3.out.size)
      generalize trimN [(joinF n.toNat (X.map RA.at)).length, 0] = T
      clear h4 hb4
      go_wp2_with fail
      refine (HK.out w4 HB4.out).mono ?_
      rintro e w5 ⟨rfl, hb5⟩
      have HB5 := Lib.hid (Below.then HB4.out hb5 HB4.out.size)
      rw [HE.out]
      clear hb5 HJ HC HK
      go_wp2_with fail
      refine (HFIN.out w5 HB5.out).mono ?_
      rintro e w6 ⟨rfl, hb6⟩
      go_wp2
      go_ret
      exact ⟨rfl, hb6⟩
  · have HJ2 := Lib.hid (HJ.out fun h => absurd h he)
    have HC2 := Lib.hid (HC.out fun h => absurd h he)
    have HE : Hid (errA n X ≠ 0) := he
    have hnb : (errA n X == 0) = false := by simpa using he
    clear he HJ HC
    generalize hq : errA n X = q at *
    have HQ := Lib.hid hq
    clear hq
    go_wp2_with fail
    all_goals
      refine HJ2.out.mono ?_
      rintro e w3 ⟨h3, hb3, -⟩
      obtain rfl := h3 (by rw [HQ.out]; exact HE.out)
      rw [HQ.out]
      have HB3 := Lib.hid hb3
      clear h3 hb3
      go_wp2_with fail
      refine (HC2.out w3 HB3.out).mono ?_
      rintro e w4 ⟨h4, hb4, -⟩
      obtain rfl := h4 (by rw [HQ.out]; exact HE.out)
      rw [HQ.out]
      have HB4 := Lib.hid (Below.then HB3.out hb4 HB3.out.size)
      clear h4 hb4
      go_wp2_with fail
      refine (HK.out w4 HB4.out).mono ?_
      rintro e w5 ⟨rfl, hb5⟩
      have HB5 := Lib.hid (Below.then HB4.out hb5 HB4.out.size)
      clear hb5 HJ2 HC2 HK
      go_wp2_with fail
      refine (natCmp_any (.slice none 0 0) (.slice none 0 0) 0 0 w5 (NatM.zero w5) (NatM.zero w5)).mono ?_
      rintro e w6 ⟨z, rfl, hz, hx6⟩
      obtain rfl := hz.2 rfl
      have HB6 := Lib.hid (Below.then HB5.out hx6.below HB5.out.size)
      clear hz hx6
      go_wp2_with fail
      refine (HFIN.out w6 HB6.out).mono ?_
      rintro e w7 ⟨rfl, hb7⟩
      go_wp2
      go_ret
      exact ⟨rfl, hb7⟩

end Go.Proofs.Ytiomelogggilgaa
end

section
/- Walk: LeapfrogJoins. -/
namespace Go.Proofs.Ytiomelogggilgaa
open Go.RowKit Go.Sort

theorem same_refl (XA YA : Option Addr) (XC YC : Nat) (J : List RL.R) (w : World) (hX : SlRs w.heap.size w XA J) (hY : SlRs w.heap.size w YA J) (hl : J.length ≤ 1000000) (ho : RsOk J) :
    Calls Try.prog 16 #[.slice XA J.length XC, .slice YA J.length YC] w fun e w' => e = .returned (.bool true) ∧ Below w.heap.size w w' :=
  (l35same_any XA YA XC YC J J w hX hY hl hl ho ho).mono fun e w' ⟨h, hb⟩ => ⟨by rw [h, decide_eq_true rfl], hb⟩
/-- The reference's join of small atoms without error. -/
theorem refS_any {m : Nat} {X : List RA} (hg : Good0 m X) (hm : m ≤ 8) (A : Option Addr) (C : Nat) (w : World) (hr : AtsR w.heap.size w A X) :
    Calls Try.prog 15 #[.int .i64 m, .slice none 0 0, .slice A X.length C] w fun e w' => ∃ B D, e = .returned (.slice B (joinF m (X.map RA.at)).length D) ∧ (joinF m (X.map RA.at)).length ≤ D ∧ D ≤ 9223372036854775807 ∧ SlRs w'.heap.size w' B (joinF m (X.map RA.at)) ∧ Below w.heap.size w w' :=
  (r35Join_any m C A X hm (Nat.le_trans hg.many (by omega)) (fun a ha => (hg.sm a ha).ref (hg.ok a ha)) hg.at (fun v => Nat.le_trans (valsF_four hg.sm hg.ok v) (by omega)) m [] none 0 w (by simp) ⟨by simp, fun v hv => by simp at hv⟩ hr SlR.nil (Nat.le_refl _) (by omega)).mono fun e w' h => by
    unfold RJPost at h
    rw [hg.refJ] at h
    obtain ⟨⟨B, D, he, h1, h2, h3⟩, hb⟩ := h
    exact ⟨B, D, he, h1, h2, h3.sl, hb⟩

set_option maxHeartbeats 4000000 in
set_option maxRecDepth 100000 in
theorem l35Joins_any (a0 : Nat) (h0 : a0 < 256) (A : Option Addr) (C : Nat) (l : List LA) (w : World) (hA : AtsL w.heap.size w A l) (hB : LBytes l) (hl : l.length ≤ 3518437208780) :
    Calls Try.prog 8 #[.int .u8 a0, .slice A l.length C] w fun e w' => e = .returned (.bool true) ∧ Below w.heap.size w w' := by
  have HMK := Lib.hid (l35Made2 A C l w hA hB hl)
  clear hA hB hl
  obtain ⟨m, hm⟩ : ∃ m : Nat, (a0 : Int) % 9 = (m : Int) := ⟨a0 % 9, by omega⟩
  have hm8 : m ≤ 8 := by omega
  have HM := Lib.hid hm
  clear hm
  go_enter Try.func8, Try.ntmps8
  go_wp2_with fail
  refine HMK.out.mono ?_
  rintro e w1 ⟨hb1, rfl | ⟨X, A1, A2, A3, C1, C2, C3, rfl, hX, hc1, hd1, ha, hr, hz⟩⟩
  · clear HMK
    go_wp2_with fail
    refine (l35awake_any _).mono ?_
    rintro e w2 ⟨rfl, hb2⟩
    have hbw := Below.then hb1 hb2 hb1.size
    clear hb1 hb2
    go_wp2
    go_ret
    exact ⟨rfl, hbw⟩
  have HB1 := Lib.hid hb1
  by_cases h6 : X.length ≤ 6
  rotate_left
  · rw [decide_eq_false h6]
    clear HMK hX hc1 hd1 ha hr hz hb1
    go_wp2_with fail
    refine (l35awake_any _).mono ?_
    rintro e w2 ⟨rfl, hb2⟩
    have hbw := Below.then HB1.out hb2 HB1.out.size
    clear hb2
    go_wp2
    go_ret
    exact ⟨rfl, hbw⟩
  rw [decide_eq_true h6]
  have HA := Lib.hid ha
  have HR := Lib.hid hr
  have HX := Lib.hid hX
  have HW := Lib.hid (r35Wrong_any m A2 A3 C2 C3 X w1 hr hz (by omega) (vls hX))
  clear HMK hX hc1 hd1 ha hr hz hb1
  go_wp2_with fail
  rw [HM.out]
  refine HW.out.mono ?_
  rintro e w2 ⟨rfl, hb2⟩
  have HB2 := Lib.hid (Below.then HB1.out hb2 HB1.out.size)
  have HA2 := Lib.hid (HA.out.upB hb2)
  have HR2 := Lib.hid (HR.out.upB hb2)
  have HFIN := Lib.hid (fun W (hb : Below w2.heap.size w2 W) => (l35awake_any W).mono fun e W' h => (⟨h.1, Below.then HB2.out (Below.then hb h.2 hb.size) HB2.out.size⟩ : e = .returned (.bool true) ∧ Below w.heap.size w W'))
  clear HW hb2 HA HR
  by_cases he : errA m X = 0
  rotate_left
  · have hnb : (errA m X != 0) = true := by simpa using he
    clear he
    go_wp2_with fail
    refine (HFIN.out w2 (Below.refl _ _)).mono ?_
    rintro e w3 ⟨rfl, hb3⟩
    go_wp2
    go_ret
    exact ⟨rfl, hb3⟩
  obtain ⟨m', hm', hg⟩ := Good0.of HX.out he
  obtain rfl : m = m' := by omega
  have HJ := Lib.hid (joinS_any m A1 C1 X w2 HA2.out (by omega) HX.out (fun _ => by omega))
  have HC := Lib.hid (fun W (hb : Below w2.heap.size w2 W) => countS_any m A1 C1 X W (HA2.out.upB hb) (by omega) HX.out (fun _ => by omega))
  have HRJ := Lib.hid (fun W (hb : Below w2.heap.size w2 W) => refS_any hg hm8 A2 C2 W (HR2.out.upB hb))
  have HE := Lib.hid he
  have hJl := Nat.le_trans hg.len (pow4 hm8)
  have HRS := Lib.hid hg.rsOk
  rw [he]
  unfold JoinPost at HJ
  unfold CountPost at HC
  rw [Int.toNat_natCast] at HJ HC
  generalize joinF m (X.map RA.at) = J at *
  clear he hg hm'
  go_wp2_with fail
  refine HJ.out.mono ?_
  rintro e w3 ⟨-, hb3, h3⟩
  obtain ⟨A', C', st, rfl, hst1, hst2, -, -, hs3⟩ := h3 HE.out
  have HB3 := Lib.hid hb3
  have HS3 := Lib.hid hs3
  clear h3 hb3 hs3 HJ
  go_wp2_with fail
  refine (HC.out w3 HB3.out).mono ?_
  rintro e w4 ⟨-, hb4, h4⟩
  obtain ⟨B', st', rfl, hn4, hst'⟩ := h4 HE.out
  have HB4 := Lib.hid (Below.then HB3.out hb4 HB3.out.size)
  have HS4 := Lib.hid (HS3.out.upB hb4)
  have HN4 := Lib.hid (NatM.of hn4)
  generalize hT : trimN [J.length, 0] = T at HN4 ⊢
  clear h4 hb4 hn4 hT HC HS3
  go_wp2_with fail
  refine (HRJ.out w4 HB4.out).mono ?_
  rintro e w5 ⟨B5, D5, rfl, -, -, hs5, hb5⟩
  have HB5 := Lib.hid (Below.then HB4.out hb5 HB4.out.size)
  have HN5 := Lib.hid (HN4.out.up hb5)
  have HSM := Lib.hid (same_refl A' B5 C' D5 J w5 (HS4.out.upB hb5) hs5 (by omega) HRS.out)
  clear hb5 hs5 HN4 HRJ HS4
  go_wp2_with fail
  refine HSM.out.mono ?_
  rintro e w6 ⟨rfl, hb6⟩
  have HB6 := Lib.hid (Below.then HB5.out hb6 HB5.out.size)
  have HN6 := Lib.hid (HN5.out.up hb6)
  have hwL : IntKind.u64.wrap (J.length : Int) = (J.length : Int) := IntWalk.u64_in _ (by omega)
  clear hb6 HN5 HSM
  go_wp2_with fail
  refine (natOf_any J.length (by omega) w6).mono ?_
  rintro e w7 ⟨B7, rfl, hn7, hx7⟩
  have HB7 := Lib.hid (Below.then HB6.out hx7.below HB6.out.size)
  have HCM := Lib.hid (natCmp_any _ _ J.length J.length w7 (HN6.out.up hx7.below) (NatM.of hn7))
  generalize trimN [J.length, 0] = T7 at HCM ⊢
  clear hx7 hn7 HN6 hwL
  go_wp2_with fail
  refine HCM.out.mono ?_
  rintro e w8 ⟨z, rfl, hz, hx8⟩
  obtain rfl := hz.2 trivial
  have HB8 := Lib.hid (Below.then HB7.out hx8.below HB7.out.size)
  have hq1 : decide ((J.length : Int) ≤ (st : Int)) = true := decide_eq_true (by omega)
  have hq2 : decide ((0 : Int) ≤ (st' : Int)) = true := decide_eq_true (by omega)
  clear hz hx8 HCM
  go_wp2_with fail
  refine (HFIN.out w8 HB8.out).mono ?_
  rintro e w9 ⟨rfl, hb9⟩
  go_wp2
  go_ret
  exact ⟨rfl, hb9⟩

end Go.Proofs.Ytiomelogggilgaa
end

section
/- Lists of atoms as cells; append of a whole list of atoms. -/
namespace Go.Proofs.Ytiomelogggilgaa
open Go.RowKit Go.Sort

/-- What the headers of an atom point at. -/
structure ElM (B : Nat) (w : World) (z : RA × HM) : Prop where
  v1 : z.1.vs.length ≤ z.2.VC
  v2 : z.2.VC ≤ 9223372036854775807
  p1 : z.1.P.length ≤ z.2.PC
  p2 : z.2.PC ≤ 9223372036854775807
  V : SlI .i64 B w z.2.VA z.1.vs
  P : SlRs B w z.2.PA z.1.P
theorem ElM.upB {w w' : World} {z : RA × HM} (h : ElM w.heap.size w z) (hb : Below w.heap.size w w') : ElM w'.heap.size w' z :=
  ⟨h.v1, h.v2, h.p1, h.p2, (Sl.below h.V hb (Nat.le_refl _)).more hb.size, h.P.upB hb⟩
/-- The cells of a list of atoms. -/
theorem AtsM.zs {B : Nat} {w : World} {A : Option Addr} {X : List RA} (h : AtsM B w A X) : ∃ Z : List (RA × HM), Z.map Prod.fst = X ∧ Sl B w A (Z.flatMap outC) ∧ ∀ z ∈ Z, ElM B w z := by
  by_cases hX : X = []
  · subst hX
    exact ⟨[], rfl, fun h => absurd rfl h, fun z hz => by simp at hz⟩
  obtain ⟨b, o, rfl, hb, hc⟩ := h hX
  have hch : ∀ i, i < X.length → ∃ z : RA × HM, X[i]? = some z.1 ∧ (∀ j u, (outC z)[j]? = some u → w.cell? ⟨b, o + i * 3 + j, none⟩ = some u) ∧ ElM B w z := fun i hi => by
    obtain ⟨VA, VC, PA, PC, h1, h2, h3, h4, h5, h6, h7, h8, h9⟩ := hc i hi
    refine ⟨(X[i], ⟨VA, VC, PA, PC, none, 0⟩), List.getElem?_eq_getElem hi, fun j u hu => ?_, ⟨h4, h5, h6, h7, h8, h9⟩⟩
    match j, hu with
    | 0, hu => rw [← hu]; exact h1
    | 1, hu => rw [← hu]; exact h2
    | 2, hu => rw [← hu]; exact h3
    | j + 3, hu => exact absurd hu (by simp [outC])
  haveI : Inhabited (RA × HM) := ⟨(⟨[], 0, []⟩, ⟨none, 0, none, 0, none, 0⟩)⟩
  obtain ⟨f, hf⟩ := Go.Deep.choose_lt hch
  refine ⟨(List.range X.length).map f, ?_, fun _ => ⟨b, o, rfl, hb, fun i u hu => ?_⟩, fun z hz => ?_⟩
  · refine List.ext_getElem (by simp) fun i h1 h2 => ?_
    have := (hf i h2).1
    rw [List.getElem?_eq_getElem h2] at this
    simpa using (Option.some.inj this).symm
  · have hl : (((List.range X.length).map f).flatMap outC).length = X.length * 3 := by
      have : ∀ L : List (RA × HM), (L.flatMap outC).length = L.length * 3 := fun L => by
        induction L with
        | nil => rfl
        | cons z t ih => rw [List.flatMap_cons, List.length_append, ih, List.length_cons]; show 3 + _ = _; omega
      rw [this]; simp
    have hi : i < X.length * 3 := by
      have := (List.getElem?_eq_some_iff.1 hu).1
      omega
    have hi3 : i / 3 < X.length := by omega
    have g := flat_get outC 3 (fun _ => rfl) ((List.range X.length).map f) (i / 3) (i % 3) (by simpa using hi3) (by omega)
    rw [show i / 3 * 3 + i % 3 = i by omega, hu] at g
    have := (hf (i / 3) hi3).2.1 (i % 3) u (by rw [g]; simp)
    rw [← this]
    congr 2
    omega
  · obtain ⟨i, hi, rfl⟩ := List.mem_map.1 hz
    exact (hf i (List.mem_range.1 hi)).2.2
theorem AtsM.of_zs {B : Nat} {w : World} {A : Option Addr} {Z : List (RA × HM)} (h : Sl B w A (Z.flatMap outC)) (hz : ∀ z ∈ Z, ElM B w z) : AtsM B w A (Z.map Prod.fst) := fun hn => by
  have hne : Z ≠ [] := fun e => hn (by rw [e]; rfl)
  obtain ⟨b, o, rfl, hb, hc⟩ := h (fun h0 => by
    obtain ⟨z, t, rfl⟩ := List.exists_cons_of_ne_nil hne
    rw [List.flatMap_cons] at h0
    have := congrArg List.length h0
    rw [List.length_append] at this
    have h3 : (outC z).length = 3 := rfl
    simp only [List.length_nil] at this
    omega)
  refine ⟨b, o, rfl, hb, fun i hi => ?_⟩
  rw [List.length_map] at hi
  have he := hz _ (List.getElem_mem hi)
  have g := fun j hj => flat_get outC 3 (fun _ => rfl) Z i j hi hj
  rw [List.getElem_map]
  exact ⟨_, _, _, _, hc _ _ (g 0 (by omega)), by rw [Nat.add_assoc]; exact hc _ _ (g 1 (by omega)), by rw [Nat.add_assoc]; exact hc _ _ (g 2 (by omega)), he.v1, he.v2, he.p1, he.p2, he.V, he.P⟩
theorem outC_len : ∀ L : List (RA × HM), (L.flatMap outC).length = L.length * 3
  | [] => rfl
  | z :: t => by rw [List.flatMap_cons, List.length_append, outC_len t, List.length_cons]; show 3 + _ = _; omega
theorem outC_one : ∀ L : List (RA × HM), ∀ x ∈ L.flatMap outC, x.oneCell' = true := fun L x hx => by
  obtain ⟨z, _, hx⟩ := List.mem_flatMap.1 hx
  simp [outC] at hx
  rcases hx with rfl | rfl | rfl <;> rfl

set_option maxRecDepth 4000 in
theorem runLAs {w : World} (ty : TypeId) (base : Nat) (v : Value) (n : Nat) (xs : List Value) (hown : w.ownsRow base 52 3 v n xs)
    (A : Option Addr) (m C : Nat) (Z : List (RA × HM)) (hm : Z.length = m) (hz : Sl w.heap.size w A (Z.flatMap outC)) (hn : n + m ≤ 1000000) (hbase : base ≤ w.heap.size) :
    ∃ v' w', (Builtin.append_ #[23, 23] ty #[v, .slice A m C]).run Try.prog w = .ok v' w' ∧ w'.ownsRow base 52 3 v' (n + m) (xs ++ Z.flatMap outC) ∧ w.grownBy w' v.ownBlock := by
  subst hm
  obtain ⟨i0, hi0, hz0, hz1, hz2⟩ := info_parts atomInfo
  have hcell : ∀ ad, A = some ad → ∀ j u, (Z.flatMap outC)[j]? = some u → w.cell? (ad.add j) = some u := fun ad e j u hu => by
    obtain ⟨b, o, e', hb, hc⟩ := hz (by intro h0; rw [h0] at hu; simp at hu)
    rw [e] at e'
    injection e' with e'
    subst e'
    rw [Addr.add_lit]
    exact hc j u hu
  rcases A with _ | ad
  · have hy : Z = [] := by
      refine Classical.byContradiction fun hne => ?_
      obtain ⟨b, o, e', hb, hc⟩ := hz (fun h0 => hne (List.eq_nil_of_length_eq_zero (by have := outC_len Z; rw [h0] at this; simp at this; omega)))
      cases e'
    subst hy
    exact ⟨v, w, run_append_none (P := Try.prog) w base 23 ty 52 i0 3 Try.underlying23 hi0 v n xs hown C, by simpa using hown, rfl, rfl, rfl, Nat.le_refl _, fun _ _ _ => rfl⟩
  · obtain ⟨v', w', hrun, k2, k3, _, k5⟩ := run_append_own_at (P := Try.prog) w base 23 ty 52 i0 _ 3 56 Try.underlying23 hi0 hz0 hz1 hz2 rfl (by decide) v n xs hown ad Z.length C (Z.flatMap outC) (outC_len Z) (hcell ad rfl) (outC_one Z) (by simp only [maxLen]; omega) (by omega) hbase
    exact ⟨v', w', hrun, k2, k3⟩
/-- append(l, atoms...). -/
theorem appLAs {w : World} {ops : Array Oper} {rest : List Oper} {o : Oper} {a : Act} {Q : Exit → Act → World → Prop} (hgd : o.guard = none) (s x : Operand)
    (ho : o.op = .call { callee := .builtin .append, args := #[s, x], argTypes := #[23, 23] })
    (base : Nat) (v : Value) (n : Nat) (xs : List Value) (hs0 : a.eval s = v) (hown : w.ownsRow base 52 3 v n xs)
    (A : Option Addr) (m C : Nat) (Z : List (RA × HM)) (hm : Z.length = m) (hx : a.eval x = .slice A m C) (hz : Sl w.heap.size w A (Z.flatMap outC))
    (hn : n + m ≤ 1000000) (hbase : base ≤ w.heap.size)
    (h : ∀ v' w', w'.ownsRow base 52 3 v' (n + m) (xs ++ Z.flatMap outC) → w.grownBy w' v.ownBlock → wpList Try.prog ops Q rest (a.put o.dst v') w') : wpList Try.prog ops Q (o :: rest) a w := by
  refine wpList_plain hgd fun K hK => ?_
  obtain ⟨v', w', hrun, k2, k3⟩ := runLAs o.type base v n xs hown A m C Z hm hz hn hbase
  unfold Oper.wp execOp
  simp only [ho, resolve, invoke, builtin, Sem.run_bind, Sem.run_pure, Result.andThen_ok, List.map_toArray, List.map_cons, List.map_nil, hs0, hx, hrun]
  exact hK _ _ (h v' w' k2 k3)
/-- The same at a step of a drawn region. -/
theorem stepLAs {w : World} {ops : Array Oper} {o : Oper} {a : Act} {K : Act → World → Prop} {Q : Exit → Act → World → Prop} {E : Prop} (hgd : o.guard = none) (s x : Operand)
    (ho : o.op = .call { callee := .builtin .append, args := #[s, x], argTypes := #[23, 23] })
    (base : Nat) (v : Value) (n : Nat) (xs : List Value) (hs0 : a.eval s = v) (hown : w.ownsRow base 52 3 v n xs)
    (A : Option Addr) (m C : Nat) (Z : List (RA × HM)) (hm : Z.length = m) (hx : a.eval x = .slice A m C) (hz : Sl w.heap.size w A (Z.flatMap outC))
    (hn : n + m ≤ 1000000) (hbase : base ≤ w.heap.size)
    (h : ∀ v' w', w'.ownsRow base 52 3 v' (n + m) (xs ++ Z.flatMap outC) → w.grownBy w' v.ownBlock → K (a.put o.dst v') w') :
    if Region.wanted o (yielded ops a.tmps) = true then Oper.wp Try.prog o a w K Q else E := by
  obtain ⟨v', w', hrun, k2, k3⟩ := runLAs o.type base v n xs hown A m C Z hm hz hn hbase
  have hw : Region.wanted o (yielded ops a.tmps) = true := by unfold Region.wanted; rw [hgd]
  rw [if_pos hw]
  unfold Oper.wp execOp
  simp only [ho, resolve, invoke, builtin, Sem.run_bind, Sem.run_pure, Result.andThen_ok, List.map_toArray, List.map_cons, List.map_nil, hs0, hx, hrun]
  exact h v' w' k2 k3
/-- A list of atoms that a call made, read as atoms. -/
theorem own_atsM {w : World} {base : Nat} {v : Value} {n : Nat} {Z : List (RA × HM)} (_hn : Z.length = n) (h : w.ownsRow base 52 3 v n (Z.flatMap outC)) (hz : ∀ z ∈ Z, ElM w.heap.size w z) :
    ∃ A C, v = .slice A n C ∧ n ≤ C ∧ C ≤ 9223372036854775807 ∧ AtsM w.heap.size w A (Z.map Prod.fst) := by
  obtain ⟨A, C, e, h1, h2, h3⟩ := own_slice h (by decide)
  refine ⟨A, C, e, h1, h2, AtsM.of_zs (fun hne => ?_) hz⟩
  obtain ⟨b, rfl, hb, hc⟩ := h3 hne
  exact ⟨b, 0, rfl, hb, fun i u hu => by rw [Nat.zero_add]; exact hc i u hu⟩
theorem own_oneL (w : World) (base : Nat) (T : TypeId) (size : Nat) (u : List Value) (hu : u.length = size) (hb : base ≤ w.heap.size) : (w.alloc (.cells u.toArray T)).ownsRow base T size (.slice (some ⟨w.heap.size, 0, none⟩) 1 1) 1 u :=
  ⟨by rw [hu, Nat.one_mul], .inr ⟨w.heap.size, 1, u.toArray, rfl, hb, Row.new w T u, Nat.le_refl _, by simp [maxLen], by simp [hu], by simp [hu, List.take_of_length_le]⟩⟩
theorem Sl.part {B : Nat} {w : World} {b o : Nat} {xs ys zs : List Value} (h : Sl B w (some ⟨b, o, none⟩) (xs ++ ys ++ zs)) : Sl B w (some ⟨b, o + xs.length, none⟩) ys := fun hn => by
  obtain ⟨b', o', e, hb, hc⟩ := h (by simp [hn])
  injection e with e
  injection e with e1 e2
  subst e1 e2
  refine ⟨b, o + xs.length, rfl, hb, fun i u hu => ?_⟩
  rw [Nat.add_assoc]
  refine hc _ _ ?_
  rw [List.append_assoc, List.getElem?_append_right (by omega), Nat.add_sub_cancel_left, List.getElem?_append_left (List.getElem?_eq_some_iff.1 hu).1]
  exact hu

end Go.Proofs.Ytiomelogggilgaa
end

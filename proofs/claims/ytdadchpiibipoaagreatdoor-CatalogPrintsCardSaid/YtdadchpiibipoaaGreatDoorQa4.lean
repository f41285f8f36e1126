/- Parts of the proof, merged: C7, C8, W3, Z8, Z9, Z10, V24, V25. -/
import Derived.Test.YtdadchpiibipoaaGreatDoorQa3
import Derived.Test.YtdadchpiibipoaaGreatDoorQa1
import Derived.Test.YtdadchpiibipoaaGreatDoorQa2
import Derived.Test.YtdadchpiibipoaaGreatDoorRows
import Derived.Lib.SliceRun
import Derived.Deep.RegionHeld3
import Derived.Lib.AppendZerosOnto

set_option maxRecDepth 100000
namespace Go.Proofs.YtdadchpiibipoaaGreatDoor
section
open Go.RowKit Go.Sort

def BldS (w : World) (B b : Nat) (l : List UInt8) : Prop := Lib.IsBuilder 89 5 B b (Lib.byteCells l) w
theorem BldS.new (w : World) : BldS (w.alloc (.cells #[.pointer none, .slice none 0 0] 89)) w.heap.size w.heap.size [] := Lib.fresh_isBuilder _ _ w
theorem bldAt_up {w w' : World} {B b : Nat} {p : Value} {l : List UInt8} (h : Lib.BuilderAt 89 5 B b p (Lib.byteCells l) w) (hb : Below w.heap.size w w') : Lib.BuilderAt 89 5 B b p (Lib.byteCells l) w' := by
  have hlt := h.lt
  obtain ⟨h1, v, h2, h3, h4⟩ := h
  exact ⟨h1, v, (hb.block b hlt).trans h2, own_keep h3 hb, h4⟩
theorem BldS.up {w w' : World} {B b : Nat} {l : List UInt8} (h : BldS w B b l) (hb : Below w.heap.size w w') : BldS w' B b l := by
  rcases h with h | h
  · exact .inl (bldAt_up h hb)
  · exact .inr (bldAt_up h hb)
theorem bWriteByte_any {w : World} {B b : Nat} {l : List UInt8} (h : BldS w B b l) (c : UInt8) (hl : l.length ≤ 1000000000) (hB : B ≤ w.heap.size) :
    Calls Tryz.prog 41 #[.pointer (some ⟨b, 0, none⟩), .int .u8 (c.toNat : Nat)] w fun e w' => e = .returned .nilIface ∧ BldS w' B b (l ++ [c]) ∧ Below B w w' := by
  refine (Any.Builder_WriteByte YtdadchpiibipoaaGreatDoor.lWriteByte YtdadchpiibipoaaGreatDoor.lWriteByteX B b (Lib.byteCells l) (c.toNat : Nat) w h (by rw [Lib.byteCells_length]; omega) hB).mono ?_
  rintro e w' ⟨h1, h2, h3⟩
  refine ⟨h1, ?_, h3⟩
  unfold BldS
  rw [Lib.byteCells_append]
  exact .inr h2
theorem bWriteString_any {w : World} {B b : Nat} {l : List UInt8} (h : BldS w B b l) (s : ByteArray) (hl : l.length ≤ 1000000000) (hs : s.size ≤ 1000000000) (hB : B ≤ w.heap.size) :
    Calls Tryz.prog 42 #[.pointer (some ⟨b, 0, none⟩), .string s] w fun e w' => e = .returned (.tuple #[.int .i64 s.size, .nilIface]) ∧ BldS w' B b (l ++ s.data.toList) ∧ Below B w w' := by
  refine (Any.Builder_WriteString YtdadchpiibipoaaGreatDoor.lWriteString YtdadchpiibipoaaGreatDoor.lWriteStringX B b (Lib.byteCells l) s w h (by rw [Lib.byteCells_length]; omega) hB).mono ?_
  rintro e w' ⟨h1, h2, h3⟩
  refine ⟨h1, ?_, h3⟩
  unfold BldS
  rw [Lib.byteCells_append, ← Lib.strCells_eq]
  exact .inr h2
theorem lStringX : Builder.Extra Tryz.prog YtdadchpiibipoaaGreatDoor.lString_ren where
  sizeBuilder := by kernel_rfl
  liesBuilder := by kernel_rfl
  t5 := Tryz.underlying5
  a5 := Tryz.isAgg5
  z5 := Tryz.sizeOf5
  v5 := Tryz.zeroValue5
  infoByte := by kernel_rfl
  cellsByte := by kernel_rfl
  sizeByte := by kernel_rfl
  neB5 := by decide
theorem bString_any {w : World} {B b : Nat} {l : List UInt8} (h : BldS w B b l) (hB : B ≤ w.heap.size) :
    Calls Tryz.prog 44 #[.pointer (some ⟨b, 0, none⟩)] w fun e w' => e = .returned (.string (toB l)) ∧ Below B w w' :=
  Any.Builder_String_any YtdadchpiibipoaaGreatDoor.lString lStringX B b l w h hB

theorem itoa_len {n : Int} (h0 : -9223372036854775808 ≤ n) (h1 : n ≤ 9223372036854775807) : (Lib.itoa n).length ≤ 21 := by
  have hd : ∀ u : Nat, u < 18446744073709551616 → (Lib.decDigits u).length ≤ 20 := fun u hu => by
    rw [Lib.decDigits_length]
    rcases Nat.eq_zero_or_pos u with h | h
    · subst h; rw [Lib.nDigits_small (by omega)]; omega
    · obtain ⟨e1, e2⟩ := Lib.numDigits_eq u h hu
      rw [← e1]
      split <;> omega
  unfold Lib.itoa
  split
  · have := hd n.natAbs (by omega); simp only [List.length_cons]; omega
  · have := hd n.toNat (by omega); omega
theorem textV_len {v : RL.V} (hv : VFit v) : (textV v).length ≤ 98 := by
  unfold textV
  split
  · rename_i h
    split
    · have := itoa_len hv.1 hv.2.1; omega
    · unfold RL.validV at h
      simp only [Bool.or_eq_true, Bool.and_eq_true, decide_eq_true_eq] at h
      have h1 := escL_len v.str.data.toList
      rw [size_len] at h1
      unfold quoteL
      simp only [List.length_cons, List.length_append, List.length_nil]
      omega
  · simp
theorem commaV_len {x : RL.R} (hv : ∀ v ∈ x, VFit v) : (commaV x).length ≤ 100 * x.length := by
  have hf : ∀ t : List RL.V, (∀ v ∈ t, VFit v) → (t.flatMap fun u => 44 :: 32 :: textV u).length ≤ 100 * t.length := fun t => by
    induction t with
    | nil => intro _; simp
    | cons u t ih =>
      intro h
      have h1 := ih fun v hv => h v (List.mem_cons_of_mem _ hv)
      have h2 := textV_len (h u List.mem_cons_self)
      simp only [List.flatMap_cons, List.length_append, List.length_cons] at *
      omega
  cases x with
  | nil => simp [commaV]
  | cons u t =>
    have h1 := hf t fun v h => hv v (List.mem_cons_of_mem _ h)
    have h2 := textV_len (hv u List.mem_cons_self)
    simp only [commaV, List.length_append, List.length_cons] at *
    omega

set_option maxHeartbeats 4000000 in
theorem rwText_any (RA : Option Addr) (RC : Nat) (x : RL.R) (w : World) (hx : SlR w.heap.size w RA x) (hl : x.length ≤ 1000) (hv : ∀ v ∈ x, VFit v) (hT : Tabs w) :
    Calls Tryz.prog 16 #[.slice RA x.length RC] w fun e w' => e = .returned (.string (toB (textR x))) ∧ Below w.heap.size w w' := by
  have HX := Lib.hid hx
  have HV := Lib.hid (fun (v : RL.V) (h : v ∈ x) (W : World) (hb : Below w.heap.size w W) => vText_any v (hv v h) W (hT.up hb))
  have HLE : Hid (∀ k, k ≤ x.length → (40 :: commaV (x.take k)).length ≤ 100001) := fun k hk => by
    have h1 := commaV_len (x := x.take k) fun v h => hv v (List.mem_of_mem_take h)
    have h2 : (x.take k).length ≤ k := List.length_take_le _ _
    simp only [List.length_cons]; omega
  have HTL : Hid (∀ v ∈ x, (toB (textV v)).size ≤ 98) := fun v h => textV_len (hv v h)
  clear hx hv hT
  go_enter Tryz.func16, Tryz.ntmps16
  go_upto_region 2 with (fail)
  have HB0 := Lib.hid (BldS.new w)
  have HZ0 : Hid (Below w.heap.size w (w.alloc (.cells #[.pointer none, .slice none 0 0] 89))) := ((Ext.refl w).alloc _).below
  obtain ⟨W0, hW0⟩ : ∃ W0, W0 = w.alloc (.cells #[.pointer none, .slice none 0 0] 89) := ⟨_, rfl⟩
  rw [← hW0] at HB0 HZ0 ⊢
  have HZZ := Lib.hid HZ0.out.size
  clear hW0
  go_wp2_with (go_at_call 41; refine (bWriteByte_any HB0.out 40 (by simp) HZZ.out).mono ?_; rintro e w1 ⟨rfl, hb1, hz1⟩; have HB1 := Lib.hid hb1; have HZ1 : Hid (Below w.heap.size w w1) := (HZ0.out.trans hz1); clear hb1 hz1)
  go_loopw [8] (fun c wx => ∃ (k : Nat), k ≤ x.length ∧ c = .int .i64 k ∧ BldS wx w.heap.size w.heap.size (40 :: commaV (x.take k)) ∧ Below w.heap.size w wx) (fun c _ => x.length - (intOf c).toNat)
  case atStart => exact ⟨0, Nat.zero_le _, rfl, HB1.out, HZ1.out⟩
  case round =>
    obtain ⟨k, hk, rfl, hb, hz⟩ := hrel
    have HB := Lib.hid hb
    have HZ := Lib.hid hz
    clear hb hz
    by_cases hkl : k < x.length
    · have g1 : (k : Int) < (x.length : Int) := by omega
      have g0 : (0 : Int) ≤ (k : Int) := by omega
      have hw1 : IntKind.i64.wrap ((k : Int) + 1) = ((k + 1 : Nat) : Int) := by rw [IntWalk.i64_in _ (by omega)]; omega
      have HC : Hid (40 :: commaV (x.take (k + 1)) = 40 :: commaV (x.take k) ++ ((if k = 0 then [] else [44, 32]) ++ textV x[k])) := by
        show _ = _
        rw [List.take_succ_eq_append_getElem hkl, commaV_snoc]
        cases k with
        | zero => simp
        | succ k =>
          have : x.take (k + 1) ≠ [] := List.ne_nil_of_length_pos (by rw [List.length_take]; exact Nat.lt_min.2 ⟨Nat.succ_pos k, Nat.lt_trans (Nat.succ_pos k) hkl⟩)
          rw [if_neg this, if_neg (Nat.succ_ne_zero k)]
          rfl
      have HLK := Lib.hid (HLE.out k hk)
      generalize 40 :: commaV (x.take k) = L at HB HC HLK
      obtain ⟨b, o, rfl, hb, hc⟩ := HX.out (fun h0 => by have := rcells_length x; rw [h0] at this; simp only [List.length_nil] at this; omega)
      obtain ⟨g1', g2', g3'⟩ := rcells_get x k x[k] (List.getElem?_eq_getElem hkl)
      have e1 := (HZ.out.cell (p := ⟨b, o + k * 3, none⟩) hb).trans (hc _ _ g1')
      have e2 : wr.cell? ⟨b, o + k * 3 + 1, none⟩ = some (.int .i64 x[k].int) := (HZ.out.cell (p := ⟨b, o + k * 3 + 1, none⟩) hb).trans (by rw [Nat.add_assoc]; exact hc _ _ g2')
      have e3 : wr.cell? ⟨b, o + k * 3 + 2, none⟩ = some (.string x[k].str) := (HZ.out.cell (p := ⟨b, o + k * 3 + 2, none⟩) hb).trans (by rw [Nat.add_assoc]; exact hc _ _ g3')
      have HVK := Lib.hid (HV.out x[k] (List.getElem_mem hkl))
      have HTK := Lib.hid (HTL.out x[k] (List.getElem_mem hkl))
      have HZR := Lib.hid HZ.out.size
      have HZB := Lib.hid (show b < wr.heap.size from Nat.lt_of_lt_of_le hb HZ.out.size)
      obtain ⟨zk, hzk⟩ : ∃ zk, zk = x[k] := ⟨_, rfl⟩
      rw [← hzk] at e1 e2 e3 HVK HTK HC
      clear hc g1' g2' g3' hzk
      by_cases h0 : k = 0
      · have g3 : ¬ (0 : Int) < (k : Int) := by omega
        rw [if_pos h0, List.nil_append] at HC
        clear h0
        go_wp2_with (first
          | (go_at_call 43; refine (HVK.out _ HZ.out).mono ?_; rintro e w2 ⟨rfl, hz2⟩; have HZ2 := Lib.hid (HZ.out.trans (hz2.mono HZR.out)); have HB2 := Lib.hid (HB.out.up hz2); clear hz2)
          | (go_at_call 42; refine (bWriteString_any HB2.out _ (by have := HLK.out; omega) (by have := HTK.out; omega) HZ2.out.size).mono ?_; rintro e w3 ⟨rfl, hb3, hz3⟩; have HB3 := Lib.hid hb3; have HZ3 : Hid (Below w.heap.size w w3) := (HZ2.out.trans hz3); clear hb3 hz3))
        go_roundw
        case rel => exact ⟨k + 1, hkl, by go_num, by rw [HC.out]; exact HB3.out, HZ3.out⟩
        case measure => simp [intOf]; omega
      · have g3 : (0 : Int) < (k : Int) := by omega
        rw [if_neg h0] at HC
        have HC2 : Hid (40 :: commaV (x.take (k + 1)) = L ++ [44, 32] ++ textV zk) := by show _ = _; rw [HC.out, List.append_assoc]
        clear h0
        go_upto_region 8 with (go_at_call 42; refine (bWriteString_any HB.out ⟨#[44, 32]⟩ (by have := HLK.out; omega) (by decide) HZR.out).mono ?_; rintro e w1 ⟨rfl, hb1, hz1⟩; have HB1 := Lib.hid hb1; have HZ1 : Hid (Below w.heap.size w w1) := (HZ.out.trans hz1); have q1 := (hz1.cell (p := ⟨b, o + k * 3, none⟩) hb).trans e1; have q2 := (hz1.cell (p := ⟨b, o + k * 3 + 1, none⟩) hb).trans e2; have q3 := (hz1.cell (p := ⟨b, o + k * 3 + 2, none⟩) hb).trans e3; clear hb1 hz1)
        clear e1 e2 e3
        go_wp2_with (first
          | (go_at_call 43; refine (HVK.out _ HZ1.out).mono ?_; rintro e w2 ⟨rfl, hz2⟩; have HZ2 := Lib.hid (HZ1.out.trans (hz2.mono HZ1.out.size)); have HB2 := Lib.hid (HB1.out.up hz2); clear hz2)
          | (go_at_call 42; refine (bWriteString_any HB2.out _ (by have := HLK.out; simp; omega) (by have := HTK.out; omega) HZ2.out.size).mono ?_; rintro e w3 ⟨rfl, hb3, hz3⟩; have HB3 := Lib.hid hb3; have HZ3 : Hid (Below w.heap.size w w3) := (HZ2.out.trans hz3); clear hb3 hz3))
        go_roundw
        case rel => exact ⟨k + 1, hkl, by go_num, by rw [HC2.out]; exact HB3.out, HZ3.out⟩
        case measure => simp [intOf]; omega
    · obtain rfl : k = x.length := by omega
      have g1 : ¬ (x.length : Int) < (x.length : Int) := by omega
      have HLK := Lib.hid (HLE.out _ hk)
      have HQ : Hid (40 :: commaV (x.take x.length) ++ [41] = textR x) := by show _ = _; rw [List.take_length]; rfl
      generalize 40 :: commaV (x.take x.length) = L at HB HQ HLK
      have HZR := Lib.hid HZ.out.size
      go_wp2_with (first
        | (go_at_call 41; refine (bWriteByte_any HB.out 41 (by have := HLK.out; omega) HZR.out).mono ?_; rintro e w3 ⟨rfl, hb3, hz3⟩; have HB3 := Lib.hid hb3; have HZ3 : Hid (Below w.heap.size w w3) := (HZ.out.trans hz3); clear hb3 hz3)
        | (go_at_call 44; refine (bString_any HB3.out HZ3.out.size).mono ?_; rintro e w4 ⟨rfl, hz4⟩))
      go_ret
      exact ⟨by rw [← HQ.out]; rfl, HZ3.out.trans hz4⟩
end
section
open Go.RowKit Go.Sort

theorem runXStr {w : World} (ty : TypeId) (base : Nat) (v : Value) (l : List UInt8) (s : ByteArray) (hown : OwnBs w base v l) (hn : l.length + s.size ≤ 2000000000) (hbase : base ≤ w.heap.size) :
    ∃ v' w', (Builtin.append_ #[87, 9] ty #[v, .string s]).run Tryz.prog w = .ok v' w' ∧ OwnBs w' base v' (l ++ s.data.toList) ∧ w.grownBy w' v.ownBlock ∧ ∀ k, v'.ownBlock = some k → v.ownBlock = some k ∨ w.heap.size ≤ k := by
  obtain ⟨i0, hi0, hz0, hz1, hz2⟩ := info_parts u8Info
  have hsz := size_len s
  have key : ∀ b, b ≤ w.heap.size → w.ownsRow b 5 1 v l.length (Lib.byteCells l) → ∃ v' w', (Builtin.append_ #[87, 9] ty #[v, .string s]).run Tryz.prog w = .ok v' w' ∧ w'.ownsRow b 5 1 v' (l.length + s.size) (Lib.byteCells l ++ Lib.strCells s) ∧ w.grownBy w' v.ownBlock := fun b hb ho => by
    obtain ⟨v', w', q1, q2, q3, -⟩ := Lib.run_append_own_string (P := Tryz.prog) w b 87 9 ty 5 i0 Tryz.underlying87 Tryz.underlying9 hi0 hz0 hz1 hz2 v l.length _ ho s (by simp only [maxLen]; omega) (by omega) hb
    exact ⟨v', w', q1, q2, q3⟩
  obtain ⟨v', w', q1, q2, q3⟩ := key base hbase hown
  refine ⟨v', w', q1, ?_, q3, fun k hk => ?_⟩
  · unfold OwnBs
    rw [List.length_append, hsz, Lib.byteCells_append, ← Lib.strCells_eq]
    exact q2
  · rcases hown.2 with ⟨hv, h0⟩ | ⟨g, cap, cur, hv, hbg, hg, hnc, hcm, hcs, htake⟩
    · subst hv
      have hl : l = [] := List.eq_nil_of_length_eq_zero h0
      obtain ⟨v2, w2, r1, r2, r3⟩ := key w.heap.size (Nat.le_refl _) (by rw [hl]; exact World.ownsRow_nil _ _ _ _)
      rw [q1] at r1
      injection r1 with e1 e2
      subst e1
      exact .inr (own_base r2 hk)
    · subst hv
      by_cases hroom : l.length + s.size ≤ cap
      · have hr := Lib.run_append_room_string (P := Tryz.prog) w 87 9 ty 5 i0 Tryz.underlying87 Tryz.underlying9 hi0 hz1 g l.length cap cur hg s hroom (by simpa using (Nat.le_trans hroom (Nat.le_of_eq (by simpa using hcs.symm))))
        rw [q1] at hr
        injection hr with e1 e2
        subst e1
        exact .inl hk
      · have hlen : (Lib.byteCells l).length = l.length * i0.size := by rw [hz1, Nat.mul_one]; simp [Lib.byteCells]
        have hr := Lib.run_append_grow_string (P := Tryz.prog) w 87 9 ty 5 i0 (.int .u8 0) Tryz.underlying87 Tryz.underlying9 hi0 hz0 ⟨g, 0, none⟩ l.length cap (Lib.byteCells l) hlen (World.ownsRow.cells hown (g := g) rfl) s (by omega) (by omega) (by
          rw [hz2]
          exact growslice_fits (by omega) (by omega))
        rw [q1] at hr
        injection hr with e1 e2
        subst e1
        injection hk with hk
        exact .inr (Nat.le_of_eq hk)
theorem appStr {w : World} {ops : Array Oper} {rest : List Oper} {o : Oper} {a : Act} {Q : Exit → Act → World → Prop} (hgd : o.guard = none) (sl x : Operand)
    (ho : o.op = .call { callee := .builtin .append, args := #[sl, x], argTypes := #[87, 9] })
    (base : Nat) (v : Value) (l : List UInt8) (hs : a.eval sl = v) (hown : OwnBs w base v l) (s : ByteArray) (hx : a.eval x = .string s) (hn : l.length + s.size ≤ 2000000000) (hbase : base ≤ w.heap.size)
    (h : ∀ v' w', OwnBs w' base v' (l ++ s.data.toList) → w.grownBy w' v.ownBlock → (∀ k, v'.ownBlock = some k → v.ownBlock = some k ∨ w.heap.size ≤ k) → wpList Tryz.prog ops Q rest (a.put o.dst v') w') : wpList Tryz.prog ops Q (o :: rest) a w := by
  refine wpList_plain hgd fun K hK => ?_
  obtain ⟨v', w', hr, h2, h3, h4⟩ := runXStr o.type base v l s hown hn hbase
  unfold Oper.wp execOp
  simp only [ho, resolve, invoke, builtin, Sem.run_bind, Sem.run_pure, Result.andThen_ok, List.map_toArray, List.map_cons, List.map_nil, hs, hx, hr]
  exact hK _ _ (h v' w' h2 h3 h4)

def BldP (w : World) (B b : Nat) (Pr : Nat → Prop) (l : List UInt8) : Prop :=
  ∃ p v, (p = .pointer none ∨ p = .pointer (some ⟨b, 0, none⟩)) ∧ B ≤ b ∧ Row w b 89 [p, v] ∧ OwnBs w B v l ∧ v.ownBlock ≠ some b ∧ (∀ k, v.ownBlock = some k → ¬ Pr k) ∧ ¬ Pr b
section
variable {w w' : World} {B b : Nat} {Pr Pr' : Nat → Prop} {l : List UInt8}
theorem BldP.new (w : World) : BldP (w.alloc (.cells #[.pointer none, .slice none 0 0] 89)) w.heap.size w.heap.size (fun k => k < w.heap.size) [] :=
  ⟨.pointer none, .slice none 0 0, .inl rfl, Nat.le_refl _, Row.new w _ [.pointer none, .slice none 0 0], OwnBs.nil _ _, by simp [Value.ownBlock], by simp [Value.ownBlock], by omega⟩
theorem BldP.up (h : BldP w B b Pr l) (hb : Below w.heap.size w w') : BldP w' B b (fun k => Pr k ∨ w.heap.size ≤ k) l := by
  obtain ⟨p, v, h1, h2, h3, h4, h5, h6, h7⟩ := h
  exact ⟨p, v, h1, h2, h3.below hb h3.lt, own_keep h4 hb, h5, fun k hk => not_or.2 ⟨h6 k hk, by have := (own_lt h4 k hk); omega⟩, not_or.2 ⟨h7, by have := h3.lt; omega⟩⟩
theorem BldP.weak (h : BldP w B b Pr l) (hP : ∀ k, k < w.heap.size → Pr' k → Pr k) : BldP w B b Pr' l := by
  obtain ⟨p, v, h1, h2, h3, h4, h5, h6, h7⟩ := h
  exact ⟨p, v, h1, h2, h3, h4, h5, fun k hk hp => h6 k hk (hP k (own_lt h4 k hk) hp), fun hp => h7 (hP b h3.lt hp)⟩
theorem BldP.bld (h : BldP w B b Pr l) : BldS w B b l := by
  obtain ⟨p, v, h1, h2, h3, h4, h5, h6, h7⟩ := h
  have : Lib.BuilderAt 89 5 B b p (Lib.byteCells l) w := ⟨h2, v, h3, by rw [Lib.byteCells_length]; exact h4, h5⟩
  rcases h1 with rfl | rfl
  · exact .inl this
  · exact .inr this
end
theorem own_form0 {w : World} {base : Nat} {v : Value} {l : List UInt8} (h : OwnBs w base v l) : ∃ A n C, v = .slice A n C := by
  rcases h.2 with ⟨hv, _⟩ | ⟨g, cap, cur, hv, _⟩
  · exact ⟨_, _, _, hv⟩
  · exact ⟨_, _, _, hv⟩
theorem copyCheckP {w : World} {B b : Nat} {Pr : Nat → Prop} {l : List UInt8} (h : BldP w B b Pr l) :
    Calls Tryz.prog 72 #[.pointer (some ⟨b, 0, none⟩)] w fun e w' => e = .returned (.tuple #[]) ∧ ∃ v, Row w' b 89 [.pointer (some ⟨b, 0, none⟩), v] ∧ OwnBs w' B v l ∧ v.ownBlock ≠ some b ∧ (∀ k, v.ownBlock = some k → ¬ Pr k ∧ B ≤ k) ∧ Below B w w' ∧ Stay Pr w w' := by
  obtain ⟨p, v, h1, h2, h3, h4, h5, h6, h7⟩ := h
  have hc0 : w.cell? ⟨b, 0, none⟩ = some p := h3.cell 0
  rcases h1 with rfl | rfl
  · refine (Any.Builder_copyCheck_fresh { YtdadchpiibipoaaGreatDoor.lWriteByte with } YtdadchpiibipoaaGreatDoor.lWriteByteX.toX72 b w hc0 (by unfold World.shape?; rw [h3]; rfl) (h3.frozen 0)).mono ?_
    rintro e w' ⟨rfl, rfl⟩
    exact ⟨rfl, v, h3.set 0 _, ownsRow_setCell_other h4 (a := ⟨b, 0, none⟩) h5 _, h5, fun k hk => ⟨h6 k hk, own_base h4 hk⟩, (Below.refl B w).setCell (p := ⟨b, 0, none⟩) h2 _, Stay.set h7 0 _⟩
  · refine (Any.Builder_copyCheck_used { YtdadchpiibipoaaGreatDoor.lWriteByte with } YtdadchpiibipoaaGreatDoor.lWriteByteX.toX72 b w hc0).mono ?_
    rintro e w' ⟨rfl, hw⟩
    obtain rfl := hw.symm
    exact ⟨rfl, v, h3, h4, h5, fun k hk => ⟨h6 k hk, own_base h4 hk⟩, Below.refl B w, ⟨Nat.le_refl _, fun _ _ _ => rfl⟩⟩
theorem Stay.grownP {Pr : Nat → Prop} {w w' : World} {row : Option Nat} (hg : w.grownBy w' row) (hP : ∀ k, row = some k → ¬ Pr k) : Stay Pr w w' := ⟨hg.size, fun b hb hp => hg.block b hb (fun e => hP b e.symm hp)⟩

set_option maxHeartbeats 2000000 in
theorem bWriteByteP {w : World} {B b : Nat} {Pr : Nat → Prop} {l : List UInt8} (h : BldP w B b Pr l) (c : UInt8) (hl : l.length ≤ 900000000) (hB : B ≤ w.heap.size) (hP : ∀ k, Pr k → k < w.heap.size) :
    Calls Tryz.prog 41 #[.pointer (some ⟨b, 0, none⟩), .int .u8 (c.toNat : Nat)] w fun e w' => e = .returned .nilIface ∧ BldP w' B b Pr (l ++ [c]) ∧ Below B w w' ∧ Stay Pr w w' := by
  have HC := Lib.hid (copyCheckP h)
  have hbB : B ≤ b := let ⟨_, _, _, h, _⟩ := h; h
  have hPb : ¬ Pr b := let ⟨_, _, _, _, _, _, _, _, h⟩ := h; h
  have HP := Lib.hid hP
  clear h hP
  go_enter Tryz.func41, Tryz.ntmps41
  go_wp2_with (first
    | (go_at_call 72; refine HC.out.mono ?_; rintro e w1 ⟨rfl, v, hr1, ho1, hv1, hv2, hb1, hs1⟩; have c1 : w1.cell? ⟨b, 1, none⟩ = some v := hr1.cell 1; have HR1 := Lib.hid hr1; have HO1 := Lib.hid ho1; have HV1 := Lib.hid hv1; have HV2 := Lib.hid hv2; have HB1 := Lib.hid hb1; have HS1 := Lib.hid hs1; have HZ1 := Lib.hid (Nat.le_trans hB hb1.size); clear hr1 ho1 hv1 hv2 hb1 hs1)
    | (at_builtin; refine appBs rfl (.tmp 11) (.tmp 13) rfl B v l rfl (HO1.out.alloc _) w1.heap.size 1 [c] rfl rfl (by decide) (Row.new w1 5 (Lib.byteCells [c])) (by simp; omega) (by have := HZ1.out; simp; omega) ?_; intro gn cn w2 hown2 hg2 hat2; have hlt := HR1.out.lt; have hr2 : Row w2 b 89 [.pointer (some ⟨b, 0, none⟩), v] := ((HR1.out.alloc _).grown hg2 (fun e => HV1.out e.symm)); have d1 : w2.cell? ⟨b, 1, none⟩ = some v := hr2.cell 1; have f1 : w2.frozen? ⟨b, 1, none⟩ = false := hr2.frozen 1; have HR2 := Lib.hid hr2; have HO2 := Lib.hid hown2; have HG2 := Lib.hid hg2; have HA2 := Lib.hid hat2; have HGB : Hid (gn ≠ b) := (fun e => hat2.elim (fun h => HV1.out (by rw [h, e])) (fun h => by rw [e] at h; simp at h; omega)); have HLT := Lib.hid hlt; clear hr2 hown2 hg2 hat2 hlt c1))
  go_ret
  have hbb : Below B w w2 := (HB1.out.alloc HZ1.out _).grown HG2.out (by have := HZ1.out; simp; omega) (fun k hk => (HV2.out k hk).2)
  have hss : Stay Pr w w2 := (HS1.out.trans (Stay.of ((Ext.refl w1).alloc _).below)).trans (Stay.grownP HG2.out fun k hk => (HV2.out k hk).1)
  have e1 : (l ++ [c]).length = l.length + 1 := by simp
  have ho := HO2.out
  rw [e1] at ho
  have hne : (Value.slice (some ⟨gn, 0, none⟩) (l.length + 1) cn).ownBlock ≠ some b := fun e => HGB.out (by injection e)
  refine ⟨rfl, ⟨.pointer (some ⟨b, 0, none⟩), .slice (some ⟨gn, 0, none⟩) (l.length + 1) cn, .inr rfl, hbB, ?_, ownsRow_setCell_other ho (a := ⟨b, 1, none⟩) hne _, hne, fun k hk => ?_, hPb⟩, hbb.setCell (p := ⟨b, 1, none⟩) hbB _, hss.trans (Stay.set hPb 1 _)⟩
  · have := HR2.out.set 1 (.slice (some ⟨gn, 0, none⟩) (l.length + 1) cn)
    exact this
  · injection hk with hk
    subst hk
    rcases HA2.out with h | h
    · exact (HV2.out gn h).1
    · intro hp
      have h1 := HP.out _ hp
      have h2 := HB1.out.size
      rw [h] at h1
      simp at h1
      omega

set_option maxHeartbeats 2000000 in
theorem bWriteStringP {w : World} {B b : Nat} {Pr : Nat → Prop} {l : List UInt8} (h : BldP w B b Pr l) (s : ByteArray) (hl : l.length ≤ 900000000) (hs : s.size ≤ 900000000) (hB : B ≤ w.heap.size) (hP : ∀ k, Pr k → k < w.heap.size) :
    Calls Tryz.prog 42 #[.pointer (some ⟨b, 0, none⟩), .string s] w fun e w' => e = .returned (.tuple #[.int .i64 s.size, .nilIface]) ∧ BldP w' B b Pr (l ++ s.data.toList) ∧ Below B w w' ∧ Stay Pr w w' := by
  have HC := Lib.hid (copyCheckP h)
  have hbB : B ≤ b := let ⟨_, _, _, h, _⟩ := h; h
  have hPb : ¬ Pr b := let ⟨_, _, _, _, _, _, _, _, h⟩ := h; h
  have HP := Lib.hid hP
  clear h hP
  go_enter Tryz.func42, Tryz.ntmps42
  go_wp2_with (first
    | (go_at_call 72; refine HC.out.mono ?_; rintro e w1 ⟨rfl, v, hr1, ho1, hv1, hv2, hb1, hs1⟩; have c1 : w1.cell? ⟨b, 1, none⟩ = some v := hr1.cell 1; have HR1 := Lib.hid hr1; have HO1 := Lib.hid ho1; have HV1 := Lib.hid hv1; have HV2 := Lib.hid hv2; have HB1 := Lib.hid hb1; have HS1 := Lib.hid hs1; have HZ1 := Lib.hid (Nat.le_trans hB hb1.size); clear hr1 ho1 hv1 hv2 hb1 hs1)
    | (at_builtin; refine appStr rfl (.tmp 12) (.tmp 13) rfl B v l rfl HO1.out s rfl (by omega) HZ1.out ?_; intro v2 w2 hown2 hg2 hat2; obtain ⟨A2, n2, C2, rfl⟩ := own_form0 hown2; have hlt := HR1.out.lt; have hr2 : Row w2 b 89 [.pointer (some ⟨b, 0, none⟩), v] := (HR1.out.grown hg2 (fun e => HV1.out e.symm)); have d1 : w2.cell? ⟨b, 1, none⟩ = some v := hr2.cell 1; have f1 : w2.frozen? ⟨b, 1, none⟩ = false := hr2.frozen 1; have HR2 := Lib.hid hr2; have HO2 := Lib.hid hown2; have HG2 := Lib.hid hg2; have HA2 := Lib.hid hat2; have HLT := Lib.hid hlt; clear hr2 hown2 hg2 hat2 hlt c1))
  go_ret2
  have hbb : Below B w w2 := HB1.out.grown HG2.out HZ1.out (fun k hk => (HV2.out k hk).2)
  have hss : Stay Pr w w2 := HS1.out.trans (Stay.grownP HG2.out fun k hk => (HV2.out k hk).1)
  have hne : (Value.slice A2 n2 C2).ownBlock ≠ some b := fun e => by
    rcases HA2.out b e with h | h
    · exact HV1.out h
    · have := HLT.out; omega
  refine ⟨rfl, ⟨.pointer (some ⟨b, 0, none⟩), Value.slice A2 n2 C2, .inr rfl, hbB, ?_, ownsRow_setCell_other HO2.out (a := ⟨b, 1, none⟩) hne _, hne, fun k hk => ?_, hPb⟩, hbb.setCell (p := ⟨b, 1, none⟩) hbB _, hss.trans (Stay.set hPb 1 _)⟩
  · have := HR2.out.set 1 (Value.slice A2 n2 C2)
    exact this
  · rcases HA2.out k hk with h | h
    · exact (HV2.out k h).1
    · intro hp
      have h1 := HP.out _ hp
      have h2 := HB1.out.size
      omega
end
section
open Go.RowKit

theorem add_pos (b o i : Nat) : (Addr.add ⟨b, o, none⟩ i) = ⟨b, o + i, none⟩ := by
  unfold Addr.add
  split
  · next h => subst h; rfl
  · rfl

theorem Sl.cells {B : Nat} {w : World} {ad : Addr} {xs : List Value} (h : Sl B w (some ad) xs) : ∀ j u, xs[j]? = some u → w.cell? (ad.add j) = some u := by
  intro j u hu
  obtain ⟨b, o, e, _, hc⟩ := h (by rintro rfl; simp at hu)
  injection e with e
  subst e
  rw [add_pos]
  exact hc j u hu

theorem intInfo27 : (Tryz.prog.info? 3).map (fun i => (i.zero, i.size, i.bytes)) = some (some (.int .i64 0), 1, 8) := by kernel_rfl
set_option maxHeartbeats 400000 in
theorem cloneInt_any (A : Option Addr) (c : Nat) (zs : List Int) (w : World) (hx : SlI .i64 w.heap.size w A zs) (hl : zs.length ≤ 1000000) :
    Calls Tryz.prog 48 #[.slice A zs.length c] w fun e w' => ∃ v, e = .returned v ∧ w'.ownsRow w.heap.size 3 1 v zs.length (zs.map (Value.int .i64)) ∧ Below w.heap.size w w' := by
  have hnil := fun w => Lib.run_eql_slice_nil (P := Tryz.prog) w 36 3 A zs.length c 0 0 Tryz.underlying36
  rcases A with _ | ad
  · have hz : zs = [] := by
      cases zs with
      | nil => rfl
      | cons z zs => obtain ⟨b, o, e, _⟩ := hx (by simp); cases e
    subst hz
    simp only [List.length_nil] at *
    clear hx
    go_enter Tryz.func48, Tryz.ntmps48
    go_wp2
    go_ret
    exact ⟨_, rfl, ⟨rfl, .inl ⟨rfl, rfl⟩⟩, Below.refl _ _⟩
  · obtain ⟨i0, hi0, hz0, hz1, hz2⟩ := info_parts intInfo27
    have hcs := (hx.alloc (Nat.le_refl _) (.cells #[] 3)).cells
    have hown : (w.alloc (.cells #[] 3)).ownsRow w.heap.size 3 1 (.slice (some ⟨w.heap.size, 0, none⟩) 0 0) 0 [] := ⟨rfl, .inr ⟨w.heap.size, 0, #[], rfl, Nat.le_refl _, heap_alloc_new w _, Nat.le_refl _, by simp [maxLen], rfl, rfl⟩⟩
    have HC := Lib.hid hcs
    have HO := Lib.hid hown
    clear hcs hown hx
    go_enter Tryz.func48, Tryz.ntmps48
    go_wp2_with (at_builtin; refine wpList_append_own _ rfl (.tmp 5) (.tmp 6) 36 rfl w.heap.size 3 i0 _ 1 8 Tryz.underlying36 hi0 hz0 hz1 hz2 rfl (by decide) (.slice (some ⟨w.heap.size, 0, none⟩) 0 0) 0 [] rfl HO.out ad zs.length c (zs.map (Value.int .i64)) rfl (by simp) HC.out (by simp [Value.oneCell']) (by simp only [maxLen]; omega) (by omega) (by simp) ?_; intro v' w' hown' hg' hn'; have HO' := Lib.hid hown'; have HG := Lib.hid hg'; clear hown' hg' hn')
    go_ret
    have h1 := HO'.out
    simp only [Nat.zero_add, List.nil_append] at h1
    refine ⟨_, rfl, h1, ?_⟩
    refine ((Below.refl _ _).alloc (Nat.le_refl _) _).grown HG.out (by simp) ?_
    intro k hk
    simp [Value.ownBlock] at hk
    omega
end
section
open Go.RowKit Go.Sort Go.ChangeMaps Go.WideShapes

theorem own_cut {w : World} {base : Nat} {e : TypeId} {size : Nat} {v : Value} {n : Nat} {xs : List Value} (h : w.ownsRow base e size v n xs) (_hs : 0 < size) : ∃ A C, v = .slice A n C ∧ n ≤ C ∧ C ≤ 9223372036854775807 ∧ (xs ≠ [] → ∃ b, A = some ⟨b, 0, none⟩ ∧ b < w.heap.size ∧ ∀ (j : Nat) u, xs[j]? = some u → w.cell? ⟨b, j, none⟩ = some u) := by
  rcases h.2 with ⟨h1, h0⟩ | ⟨g, cap, cur, h1, _, _, h5, hm, _⟩
  · subst h1 h0
    refine ⟨none, 0, rfl, Nat.le_refl _, by omega, fun hx => absurd (List.eq_nil_of_length_eq_zero (by rw [h.1, Nat.zero_mul])) hx⟩
  · subst h1
    refine ⟨some ⟨g, 0, none⟩, cap, rfl, h5, by unfold maxLen at hm; omega, fun _ => ⟨g, rfl, own_lt h g rfl, fun j u hu => ?_⟩⟩
    have := h.cells (g := g) rfl j u hu
    rwa [Addr.add_lit, Nat.zero_add] at this
def memB (s : ByteArray) (l : List ByteArray) : Bool := l.any fun x => decide (x = s)
theorem memB_iff {s : ByteArray} {l : List ByteArray} : memB s l = true ↔ s ∈ l := by
  unfold memB
  rw [List.any_eq_true]
  exact ⟨fun ⟨x, hx, e⟩ => (of_decide_eq_true e) ▸ hx, fun h => ⟨s, h, decide_eq_true rfl⟩⟩
theorem memB_no {s : ByteArray} {l : List ByteArray} (h : memB s l = false) : s ∉ l := fun e => by rw [memB_iff.2 e] at h; cases h
theorem own_slip {P : Nat → Prop} {w : World} {base : Nat} {A : Option Addr} {n C : Nat} {ks : List Int} (h : w.ownsRow base 3 1 (.slice A n C) n (ks.map (Value.int .i64))) (_hn : ks.length = n) (hP : ∀ b, base ≤ b → P b) : SlIP P w A ks := fun hne => by
  obtain ⟨A', C', e, -, -, hs⟩ := own_cut h (by decide)
  injection e with e1 e2 e3
  subst e1
  obtain ⟨b, e, hb, hc⟩ := hs (by intro h0; exact hne (List.map_eq_nil_iff.1 h0))
  exact ⟨b, 0, e, hb, hP b (own_base h (by rw [e]; rfl)), fun j u hu => by rw [Nat.zero_add]; exact hc j u hu⟩
theorem zeroEnt (u : World) : (zeroValue 99).run Tryz.prog u = .ok (.agg #[.slice none 0 0, .int .i64 0, .slice none 0 0]) u := Tryz.zeroValue99 u
def SchsM (B : Nat) (w : World) (A : Option Addr) (X : Sch) : Prop :=
  X ≠ [] → ∃ b o, A = some ⟨b, o, none⟩ ∧ b < B ∧ ∀ i (h : i < X.length), ∃ KA KC, w.cell? ⟨b, o + i * 2, none⟩ = some (.string X[i].1) ∧ w.cell? ⟨b, o + i * 2 + 1, none⟩ = some (.slice KA X[i].2.length KC) ∧ SlI .i64 B w KA X[i].2
def SchsOk (X : Sch) : Prop := ∀ p ∈ X, p.1.size ≤ 9223372036854775807 ∧ p.2.length ≤ 9223372036854775807
def errSch (seen : List ByteArray) (p : ByteArray × List Int) : Int :=
  if nameF p.1 = false then 7 else if memB p.1 seen then 8 else if 6 < p.2.length then 6 else if ∃ k ∈ p.2, k ≠ 1 ∧ k ≠ 2 then 2 else 0
def errSchs : List ByteArray → Sch → Int
  | _, [] => 0
  | seen, p :: t => if errSch seen p = 0 then errSchs (seen ++ [p.1]) t else errSch seen p
def errS (X : Sch) : Int := if 16 < X.length then 12 else errSchs [] X
theorem errSchs_at {X : Sch} {i : Nat} (h : i < X.length) : errSchs ((X.take i).map Prod.fst) (X.drop i) = if errSch ((X.take i).map Prod.fst) X[i] = 0 then errSchs ((X.take (i + 1)).map Prod.fst) (X.drop (i + 1)) else errSch ((X.take i).map Prod.fst) X[i] := by
  rw [List.drop_eq_getElem_cons h, List.take_succ_eq_append_getElem h, List.map_append]
  rfl
def EntsM (P : Nat → Prop) (S : Sch) (w : World) (D : DataW Value) (F : Cont) : Prop :=
  Maps.size D = S.length ∧ (∀ k, Maps.has D k = true → ∃ p ∈ S, k = litS p.1) ∧ ∀ p ∈ S, ∃ val, (∀ z, D.atKey (litS p.1) z = .held val) ∧ EntM P w val p.2 (F p.1)
section
variable {P P' : Nat → Prop} {S : Sch} {w w' : World} {D : DataW Value} {F : Cont} {m : Value}
theorem EntsM.keep (h : EntsM P S w D F) (hk : Stay P w w') : EntsM P S w' D F := ⟨h.1, h.2.1, fun p hp => by obtain ⟨v, g1, g2⟩ := h.2.2 p hp; exact ⟨v, g1, g2.keep hk⟩⟩
theorem EntsM.weak (h : EntsM P S w D F) (hP : ∀ b, b < w.heap.size → P b → P' b) : EntsM P' S w D F := ⟨h.1, h.2.1, fun p hp => by obtain ⟨v, g1, g2⟩ := h.2.2 p hp; exact ⟨v, g1, g2.weak hP⟩⟩
theorem EntsM.nil : EntsM P [] w (.map []) F := by
  refine ⟨rfl, ?_, ?_⟩
  · intro k hk; cases hk
  · intro p hp; cases hp
theorem EntsM.has (h : EntsM P S w D F) (s : ByteArray) : Maps.has D (litS s) = memB s (S.map Prod.fst) := by
  cases hm : memB s (S.map Prod.fst)
  · cases hh : Maps.has D (litS s)
    · rfl
    · obtain ⟨p, hp, e⟩ := h.2.1 _ hh
      exact absurd (List.mem_map.2 ⟨p, hp, (litS_inj e).symm⟩) (memB_no hm)
  · obtain ⟨p, hp, rfl⟩ := List.mem_map.1 (memB_iff.1 hm)
    obtain ⟨v, g, _⟩ := h.2.2 p hp
    exact Maps.has_true_of_atKey g
theorem EntsM.db {b : Nat} (h : EntsM P S w D F) (hP : P b) (ho : w.ownsMap Tryz.prog 9 heldR b (Maps.size D) D) : DbM P S w (.map (some b)) F := ⟨b, D, rfl, hP, ho, h.1, h.2.1, h.2.2⟩
theorem EntsM.add (h : EntsM P S w D F) (ht : Maps.Tidy D) {p : ByteArray × List Int} {val : Value} (hn : memB p.1 (S.map Prod.fst) = false) (hk : Stay P w w') (he : EntM P w' val p.2 (F p.1)) : EntsM P (S ++ [p]) w' (D.put (litS p.1) (.held val)) F := by
  have hh := h.has p.1
  rw [hn] at hh
  refine ⟨?_, fun k hkk => ?_, fun q hq => ?_⟩
  · rw [Maps.size_put ht, hh, h.1, List.length_append]
    rfl
  · by_cases e : k = litS p.1
    · exact ⟨p, by simp, e⟩
    · rw [Maps.has_put_other e] at hkk
      obtain ⟨q, hq, e2⟩ := h.2.1 k hkk
      exact ⟨q, List.mem_append.2 (.inl hq), e2⟩
  · rcases List.mem_append.1 hq with hq | hq
    · obtain ⟨v, g1, g2⟩ := h.2.2 q hq
      have hne : litS q.1 ≠ litS p.1 := fun e => memB_no hn (by rw [← litS_inj e]; exact List.mem_map.2 ⟨q, hq, rfl⟩)
      exact ⟨v, fun z => by rw [Maps.atKey_put_other hne]; exact g1 z, g2.keep hk⟩
    · simp at hq
      subst hq
      exact ⟨val, fun z => Maps.atKey_put_same ht.isMap (isKeyS _) _ z, he⟩
end
end
section
open Go.RowKit Go.Sort Go.ChangeMaps Go.WideShapes

theorem stepUpd {w : World} {ops : Array Oper} {o : Oper} {a : Act} {K : Act → World → Prop} {Q : Exit → Act → World → Prop} {E : Prop} (hgd : o.guard = none) (m x v : Operand) (t : TypeId) (hop : o.op = Op.mapUpdate t m x v)
    (k e : TypeId) (KK : Maps.Keyed Tryz.prog k) (ht : Tryz.prog.underlying t = some (.map k e)) (b n : Nat) (D : DataW Value)
    (hm : a.eval m = .map (some b)) (hown : w.ownsMap Tryz.prog k heldR b n D) (hn : n < maxLen) (key val : Value) (kl : Lit) (hx : a.eval x = key) (hv : a.eval v = val) (hkey : keyOf Tryz.prog k key = some kl)
    (h : ∀ w', w'.ownsMap Tryz.prog k heldR b (n + 1) (D.put kl (.held val)) → w.grownBy w' (some b) → K (a.put o.dst undef) w') :
    if Region.wanted o (yielded ops a.tmps) = true then Oper.wp Tryz.prog o a w K Q else E := by
  obtain ⟨w', hrun, r1, r2⟩ := hown.update KK ht hn hkey (val := val) (d := .held val) (ps := []) rfl
  have hw : Region.wanted o (yielded ops a.tmps) = true := by unfold Region.wanted; rw [hgd]
  rw [if_pos hw]
  unfold Oper.wp
  simp [execOp, hop, hm, hx, hv, hrun, Result.andThen]
  exact h w' r1 r2

theorem Stay.grown {P : Nat → Prop} {w w' : World} {g : Nat} (hg : w.grownBy w' (some g)) (hP : ¬ P g) : Stay P w w' := ⟨hg.size, fun b hb hp => hg.block b hb (fun e => hP (by injection e with e; rw [← e]; exact hp))⟩
theorem RowsOk.nil (n : Nat) : RowsOk n [] := ⟨List.Pairwise.nil, (by intro x hx; cases hx), by simp⟩
def NewPostC (P : Nat → Prop) (X : Sch) (w : World) (e : Ending) (w' : World) : Prop :=
  (errS X = 0 → ∃ m, e = .returned (.tuple #[.agg #[m], .int .i64 0]) ∧ DbM P X w' m (fun _ => [])) ∧ (errS X ≠ 0 → e = .returned (.tuple #[.agg #[.map none], .int .i64 (errS X)])) ∧ Below w.heap.size w w'
theorem NewPostC.err {P : Nat → Prop} {X : Sch} {w w' : World} {k : Int} (he : errS X = k) (hk : k ≠ 0) (hb : Below w.heap.size w w') : NewPostC P X w (.returned (.tuple #[.agg #[.map none], .int .i64 k])) w' :=
  ⟨fun h => absurd (he.symm.trans h) hk, fun _ => by rw [he], hb⟩

set_option maxHeartbeats 8000000 in
theorem ctNew_any (P : Nat → Prop) (A : Option Addr) (C : Nat) (X : Sch) (w : World) (hPn : ∀ b, w.heap.size ≤ b → P b) (hX : SchsM w.heap.size w A X) (hok : SchsOk X) (hl : X.length ≤ 9223372036854775807) :
    Calls Tryz.prog 18 #[.slice A X.length C] w (NewPostC P X w) := by
  have HX := Lib.hid hX
  have HOK := Lib.hid hok
  have HPN := Lib.hid hPn
  clear hX hok hPn
  by_cases h16 : 16 < X.length
  · have hd : decide ((16 : Int) < (X.length : Int)) = true := decide_eq_true (by omega)
    have HE : Hid (errS X = 12) := by show _ = _; unfold errS; rw [if_pos h16]
    go_enter Tryz.func18, Tryz.ntmps18
    go_wp2
    exact bodyPost_ret (v := .tuple #[.agg #[.map none], .int .i64 12]) (by simp [results, Tryz.results18, go_sem]) rfl (NewPostC.err HE.out (by decide) ((Ext.refl w).alloc _).below)
  have hd : decide ((16 : Int) < (X.length : Int)) = false := decide_eq_false (by omega)
  have HE : Hid (errS X = errSchs [] X) := by show _ = _; unfold errS; rw [if_neg h16]
  have hmm : ∀ u n, (Instr.makeMap 26 (some (.int .i64 n))).run Tryz.prog u = .ok (.map (some u.heap.size)) (u.alloc (.map #[] 0)) := fun u n => by
    simp [Instr.makeMap, run_underlying Tryz.underlying26, go_sem, asInt]
  obtain ⟨W0, hW0⟩ : ∃ W0, W0 = (w.alloc (.cells #[.map none] 28)).alloc (.map #[] 0) := ⟨_, rfl⟩
  have hr0 : Row W0 w.heap.size 28 [.map none] := by rw [hW0]; exact (Row.new w 28 _).alloc _
  have hx0 : Ext w W0 := by rw [hW0]; exact ((Ext.refl w).alloc _).alloc _
  have ho0 : W0.ownsMap Tryz.prog 9 heldR (w.heap.size + 1) 0 (.map []) := by
    have h := World.ownsMap_made (w.alloc (.cells #[.map none] 28)) Tryz.prog 9 heldR
    rw [World.size_alloc] at h
    rw [hW0]; exact h
  have hz0 : w.heap.size + 1 + 1 ≤ W0.heap.size := by rw [hW0]; simp
  have HST : Hid (W0.ownsMap Tryz.prog 9 heldR (w.heap.size + 1) 0 (.map []) ∧ Row W0 w.heap.size 28 [.map none] ∧ Below w.heap.size w W0) := ⟨ho0, hr0, hx0.below⟩
  have HZ0 := Lib.hid hz0
  clear hr0 hx0 ho0 hz0
  go_enter Tryz.func18, Tryz.ntmps18
  go_wp2_with fail
  rw [← hW0]
  clear hW0
  go_loopw [21] (fun c wx => ∃ (i : Nat) (D : DataW Value), i ≤ X.length ∧ c = .int .i64 i ∧ errSchs ((X.take i).map Prod.fst) (X.drop i) = errSchs [] X ∧ wx.ownsMap Tryz.prog 9 heldR (w.heap.size + 1) (Maps.size D) D ∧ EntsM (fun b => (P b ∧ b ≠ w.heap.size) ∧ b ≠ w.heap.size + 1) (X.take i) wx D (fun _ => []) ∧ Row wx w.heap.size 28 [.map none] ∧ Below w.heap.size w wx ∧ w.heap.size + 1 + 1 ≤ wx.heap.size) (fun c _ => X.length - (intOf c).toNat)
  case atStart => exact ⟨0, .map [], Nat.zero_le _, rfl, rfl, HST.out.1, EntsM.nil, HST.out.2.1, HST.out.2.2, HZ0.out⟩
  case round =>
    obtain ⟨i, D, hi, rfl, herr, hown, hent, hrow, hbw, hzz⟩ := hrel
    have HERR := Lib.hid herr
    have HO := Lib.hid hown
    have HENT := Lib.hid hent
    have HROW := Lib.hid hrow
    have HB := Lib.hid hbw
    have hzr := hrow.lt
    have hzb := hbw.size
    have hrz := hrow.frozen 0
    have hrc : wr.cell? ⟨w.heap.size, 0, none⟩ = some (.map none) := hrow.cell 0
    clear herr hown hent hrow hbw hd hmm HST HZ0
    by_cases hil : i < X.length
    rotate_left
    · obtain rfl : i = X.length := by omega
      have HF : Hid (errS X = 0) := by
        have h := HERR.out
        rw [List.drop_length] at h
        show _ = _
        rw [HE.out, ← h]
        rfl
      have HEN2 := HENT.out
      rw [List.take_length] at HEN2
      have HEN3 := Lib.hid HEN2
      clear HEN2
      go_wp2
      obtain ⟨W3, hW3⟩ : ∃ W3, W3 = wr.setCell ⟨w.heap.size, 0, none⟩ (.map (some (w.heap.size + 1))) := ⟨_, rfl⟩
      rw [← hW3]
      have q := HROW.out.set 0 (.map (some (w.heap.size + 1)))
      rw [← hW3] at q
      have c0 := q.cell 0
      have hb3 : Below w.heap.size w W3 := by rw [hW3]; exact HB.out.setCell (Nat.le_refl _) _
      have hst : Stay (fun b => P b ∧ b ≠ w.heap.size) wr W3 := by rw [hW3]; exact Stay.set (fun e => e.2 rfl) 0 _
      have hdb : DbM P X W3 (.map (some (w.heap.size + 1))) (fun _ => []) := by
        have h1 := (HEN3.out.weak (P' := fun b => P b ∧ b ≠ w.heap.size) fun b _ hb => hb.1).db (b := w.heap.size + 1) ⟨HPN.out _ (by omega), by omega⟩ HO.out
        exact (h1.keep hst).weak fun b _ hb => hb.1
      exact bodyPost_ret (v := .tuple #[.agg #[.map (some (w.heap.size + 1))], .int .i64 0]) (by simp [results, Tryz.results18, go_sem, c0]) rfl ⟨fun _ => ⟨_, rfl, hdb⟩, fun h => absurd HF.out h, hb3⟩
    obtain ⟨ab, ao, rfl, hab, hac⟩ := HX.out (by intro h0; rw [h0] at hil; simp at hil)
    obtain ⟨KA, KC, c0, c1, sk⟩ := hac i hil
    have c0 := (HB.out.cell (p := ⟨ab, ao + i * 2, none⟩) hab).trans c0
    have c1 := (HB.out.cell (p := ⟨ab, ao + i * 2 + 1, none⟩) hab).trans c1
    have hab2 := Nat.lt_of_lt_of_le hab hzb
    have sk := (sk.below HB.out (Nat.le_refl _)).more hzb
    have HOK1 := Lib.hid (HOK.out _ (List.getElem_mem hil))
    have HAT := Lib.hid (errSchs_at hil)
    have HTK : Hid (X.take (i + 1) = X.take i ++ [X[i]]) := List.take_succ_eq_append_getElem hil
    have g1 : (0 : Int) ≤ (i : Int) := by omega
    have g2 : (i : Int) < (X.length : Int) := by omega
    have hw1 : IntKind.i64.wrap ((i : Int) + 1) = ((i + 1 : Nat) : Int) := by rw [IntWalk.i64_in _ (by omega)]; omega
    have HSK := Lib.hid sk
    clear hac sk
    generalize X[i] = p at *
    obtain ⟨nm, ks⟩ := p
    have HKL : Hid (ks.length ≤ 9223372036854775807) := HOK1.out.2
    have HNL : Hid (nm.size ≤ 9223372036854775807) := HOK1.out.1
    have HBAD : Hid (∀ k, errSch ((X.take i).map Prod.fst) (nm, ks) = k → k ≠ 0 → errS X = k) := fun k hk h0 => by
      rw [HE.out, ← HERR.out, HAT.out, if_neg (by rw [hk]; exact h0), hk]
    have HGOOD : Hid (errSch ((X.take i).map Prod.fst) (nm, ks) = 0 → errSchs ((X.take (i + 1)).map Prod.fst) (X.drop (i + 1)) = errSchs [] X) := fun h0 => by
      rw [← HERR.out, HAT.out, if_pos h0]
    clear HOK1 HAT
    obtain ⟨wo, hwo⟩ : ∃ wo, wo = wr := ⟨_, rfl⟩
    subst hwo
    obtain ⟨W1, hW1⟩ : ∃ W1, W1 = wo.alloc (.cells #[.string nm, .slice KA ks.length KC] 62) := ⟨_, rfl⟩
    have hx1 : Ext wo W1 := by rw [hW1]; exact (Ext.refl wo).alloc _
    have hrs : Row W1 wo.heap.size 62 [.string nm, .slice KA ks.length KC] := by rw [hW1]; exact Row.new wo 62 _
    have HRS := Lib.hid hrs
    have HX1 := Lib.hid hx1
    have hm0 := map_up HO.out hx1.below
    go_upto_region 8 with (fail)
    rw [← hW1]
    clear hW1 c0 c1 hrs
    have HB1 := Lib.hid (Below.then HB.out HX1.out.below hzb)
    have HR1 := Lib.hid (HROW.out.up HX1.out.below)
    have HHAS := Lib.hid (HENT.out.has nm)
    cases hm : memB nm ((X.take i).map Prod.fst)
    rotate_left
    · obtain ⟨p, hp, hpe⟩ : ∃ p ∈ X.take i, p.1 = nm := by
        obtain ⟨p, hp, e⟩ := List.mem_map.1 (memB_iff.1 hm)
        exact ⟨p, hp, e⟩
      obtain ⟨val, hv1, hv2⟩ := HENT.out.2.2 p hp
      obtain ⟨KB, KD, QA, QC, rfl, -, -, -, -, -, -⟩ := hv2
      rw [hpe] at hv1
      have hlk := (look_yes keyedS Tryz.underlying26 zeroEnt hm0 (keyS HNL.out) hv1).1
      obtain ⟨b1, hb1⟩ : ∃ b1, b1 = p.2.length := ⟨_, rfl⟩
      rw [← hb1] at hlk
      obtain ⟨W2, hW2⟩ : ∃ W2, W2 = W1.alloc (.cells #[.slice KB b1 KD, .int .i64 b1, .slice QA 0 QC] 99) := ⟨_, rfl⟩
      have hx2 : Ext W1 W2 := by rw [hW2]; exact (Ext.refl W1).alloc _
      have HRS2 := Lib.hid (HRS.out.up hx2.below)
      have f0 := HRS.out.cell 0
      have f1 := HRS2.out.cell 0
      simp only [List.getElem?_cons_zero] at f0 f1
      have fz := HRS.out.lt
      have fz2 := HRS2.out.lt
      have HB2 := Lib.hid (Below.then HB1.out hx2.below HB1.out.size)
      have HR2 := Lib.hid (HR1.out.up hx2.below)
      have HM8 := Lib.hid hm
      clear hx2 hv1 hpe hb1 hm
      go_wp2_with fail
      rw [← hW2]
      clear hW2 hlk f0
      refine (ctValid_any nm HNL.out W2).mono ?_
      rintro e w2 ⟨rfl, rfl⟩
      have r2 := HR2.out
      have e0 : w2.cell? ⟨w.heap.size, 0, none⟩ = some (.map none) := r2.cell 0
      have e1 := r2.frozen 0
      have e2 := r2.lt
      cases hn : nameF nm
      · have HN7 := Lib.hid hn
        clear hn r2
        go_wp2_with fail
        obtain ⟨W9, hW9⟩ : ∃ W9, W9 = w2.setCell ⟨w.heap.size, 0, none⟩ (.map none) := ⟨_, rfl⟩
        rw [← hW9]
        have q := HR2.out.set 0 (.map none)
        rw [← hW9] at q
        have c9 := q.cell 0
        have hb9 : Below w.heap.size w W9 := by rw [hW9]; exact HB2.out.setCell (Nat.le_refl _) _
        exact bodyPost_ret (v := .tuple #[.agg #[.map none], .int .i64 7]) (by simp [results, Tryz.results18, go_sem, c9]) rfl (NewPostC.err (HBAD.out 7 (by unfold errSch; rw [if_pos HN7.out]) (by decide)) (by decide) hb9)
      · have HN7 := Lib.hid hn
        clear hn r2
        go_wp2_with fail
        obtain ⟨W9, hW9⟩ : ∃ W9, W9 = w2.setCell ⟨w.heap.size, 0, none⟩ (.map none) := ⟨_, rfl⟩
        rw [← hW9]
        have q := HR2.out.set 0 (.map none)
        rw [← hW9] at q
        have c9 := q.cell 0
        have hb9 : Below w.heap.size w W9 := by rw [hW9]; exact HB2.out.setCell (Nat.le_refl _) _
        exact bodyPost_ret (v := .tuple #[.agg #[.map none], .int .i64 8]) (by simp [results, Tryz.results18, go_sem, c9]) rfl (NewPostC.err (HBAD.out 8 (by unfold errSch; rw [if_neg (by rw [HN7.out]; decide), if_pos HM8.out]) (by decide)) (by decide) hb9)
    have hlk := (look_no keyedS Tryz.underlying26 zeroEnt hm0 (keyS HNL.out) (by rw [HHAS.out]; exact hm)).1
    obtain ⟨W2, hW2⟩ : ∃ W2, W2 = W1.alloc (.cells #[.slice none 0 0, .int .i64 0, .slice none 0 0] 99) := ⟨_, rfl⟩
    have hx2 : Ext W1 W2 := by rw [hW2]; exact (Ext.refl W1).alloc _
    have HRS2 := Lib.hid (HRS.out.up hx2.below)
    have f0 := HRS.out.cell 0
    have f1 := HRS2.out.cell 0
    have f2 : W2.cell? ⟨wo.heap.size, 1, none⟩ = some (.slice KA ks.length KC) := HRS2.out.cell 1
    simp only [List.getElem?_cons_zero] at f0 f1
    have fz := HRS.out.lt
    have fz2 := HRS2.out.lt
    have HB2 := Lib.hid (Below.then HB1.out hx2.below HB1.out.size)
    have HR2 := Lib.hid (HR1.out.up hx2.below)
    have HM8 := Lib.hid hm
    have HX2 := Lib.hid hx2
    clear hx2 hm
    go_wp2_with fail
    rw [← hW2]
    clear hW2 hlk f0
    refine (ctValid_any nm HNL.out W2).mono ?_
    rintro e w2 ⟨rfl, rfl⟩
    have r2 := HR2.out
    have e0 : w2.cell? ⟨w.heap.size, 0, none⟩ = some (.map none) := r2.cell 0
    have e1 := r2.frozen 0
    have e2 := r2.lt
    cases hn : nameF nm
    · have HN7 := Lib.hid hn
      clear hn r2
      go_wp2_with fail
      obtain ⟨W9, hW9⟩ : ∃ W9, W9 = w2.setCell ⟨w.heap.size, 0, none⟩ (.map none) := ⟨_, rfl⟩
      rw [← hW9]
      have q := HR2.out.set 0 (.map none)
      rw [← hW9] at q
      have c9 := q.cell 0
      have hb9 : Below w.heap.size w W9 := by rw [hW9]; exact HB2.out.setCell (Nat.le_refl _) _
      exact bodyPost_ret (v := .tuple #[.agg #[.map none], .int .i64 7]) (by simp [results, Tryz.results18, go_sem, c9]) rfl (NewPostC.err (HBAD.out 7 (by unfold errSch; rw [if_pos HN7.out]) (by decide)) (by decide) hb9)
    have HN7 := Lib.hid hn
    clear hn r2
    by_cases h6 : 6 < ks.length
    · have hd6 : decide ((6 : Int) < (ks.length : Int)) = true := decide_eq_true (by omega)
      go_wp2_with fail
      obtain ⟨W9, hW9⟩ : ∃ W9, W9 = w2.setCell ⟨w.heap.size, 0, none⟩ (.map none) := ⟨_, rfl⟩
      rw [← hW9]
      have q := HR2.out.set 0 (.map none)
      rw [← hW9] at q
      have c9 := q.cell 0
      have hb9 : Below w.heap.size w W9 := by rw [hW9]; exact HB2.out.setCell (Nat.le_refl _) _
      exact bodyPost_ret (v := .tuple #[.agg #[.map none], .int .i64 6]) (by simp [results, Tryz.results18, go_sem, c9]) rfl (NewPostC.err (HBAD.out 6 (by unfold errSch; rw [if_neg (by rw [HN7.out]; decide), if_neg (by rw [HM8.out]; decide), if_pos h6]) (by decide)) (by decide) hb9)
    have hd6 : decide ((6 : Int) < (ks.length : Int)) = false := decide_eq_false (by omega)
    go_wp2_with fail
    have HFL := Lib.hid (And.intro f1 (And.intro f2 (And.intro e0 (And.intro e1 (And.intro fz2 e2)))))
    go_loopw [53] (fun c wx => ∃ k : Nat, k ≤ ks.length ∧ c = .int .i64 k ∧ (∀ j (h : j < ks.length), j < k → ks[j] = 1 ∨ ks[j] = 2) ∧ wx = w2) (fun c _ => ks.length - (intOf c).toNat)
    case atStart => exact ⟨0, Nat.zero_le _, rfl, fun j _ hj => by omega, rfl⟩
    case round =>
      obtain ⟨k, hk, rfl, hall, rfl⟩ := hrel
      have HALL := Lib.hid hall
      clear hall
      by_cases hkl : k < ks.length
      · obtain ⟨kb, ko, rfl, hkb, hkc⟩ := HSK.out (by intro h0; rw [List.map_eq_nil_iff.1 h0] at hkl; simp at hkl)
        have hb12 : Below wo.heap.size wo wr := Below.then HX1.out.below HX2.out.below HX1.out.size
        have kc := (hb12.cell (p := ⟨kb, ko + k, none⟩) hkb).trans (hkc k (.int .i64 ks[k]) (by rw [List.getElem?_map, List.getElem?_eq_getElem hkl]; rfl))
        have hkb2 := Nat.lt_of_lt_of_le hkb hb12.size
        have g3 : (0 : Int) ≤ (k : Int) := by omega
        have g4 : (k : Int) < (ks.length : Int) := by omega
        have hw2 : IntKind.i64.wrap ((k : Int) + 1) = ((k + 1 : Nat) : Int) := by rw [IntWalk.i64_in _ (by omega)]; omega
        have HMEM : Hid (ks[k] ∈ ks) := List.getElem_mem hkl
        have HNX : Hid ((ks[k] = 1 ∨ ks[k] = 2) → ∀ j (h : j < ks.length), j < k + 1 → ks[j] = 1 ∨ ks[j] = 2) := fun hx j h hj => by
          rcases Nat.lt_or_ge j k with h1 | h1
          · exact HALL.out j h h1
          · obtain rfl : j = k := by omega
            exact hx
        generalize ks[k] = x at *
        clear hkc hb12
        by_cases hx1 : x = 1
        · have ne1 : (x != 1) = false := by rw [hx1]; rfl
          have HX5 := Lib.hid (HNX.out (.inl hx1))
          clear hx1 HNX
          go_wp2
          go_roundw
          case rel => exact ⟨k + 1, hkl, by go_num, HX5.out, by first | rfl | trivial⟩
          case measure => simp [intOf]; omega
        · have ne1 : (x != 1) = true := by simpa using hx1
          by_cases hx2 : x = 2
          · have ne2 : (x != 2) = false := by rw [hx2]; rfl
            have HX5 := Lib.hid (HNX.out (.inr hx2))
            clear hx1 hx2 HNX
            go_wp2
            go_roundw
            case rel => exact ⟨k + 1, hkl, by go_num, HX5.out, by first | rfl | trivial⟩
            case measure => simp [intOf]; omega
          · have ne2 : (x != 2) = true := by simpa using hx2
            have HX5 : Hid (∃ k ∈ ks, k ≠ 1 ∧ k ≠ 2) := ⟨x, HMEM.out, hx1, hx2⟩
            clear hx1 hx2 HNX
            go_wp2
            obtain ⟨W9, hW9⟩ : ∃ W9, W9 = wr.setCell ⟨w.heap.size, 0, none⟩ (.map none) := ⟨_, rfl⟩
            rw [← hW9]
            have q := HR2.out.set 0 (.map none)
            rw [← hW9] at q
            have c9 := q.cell 0
            have hb9 : Below w.heap.size w W9 := by rw [hW9]; exact HB2.out.setCell (Nat.le_refl _) _
            exact bodyPost_ret (v := .tuple #[.agg #[.map none], .int .i64 2]) (by simp [results, Tryz.results18, go_sem, c9]) rfl (NewPostC.err (HBAD.out 2 (by unfold errSch; rw [if_neg (by rw [HN7.out]; decide), if_neg (by rw [HM8.out]; decide), if_neg h6, if_pos HX5.out]) (by decide)) (by decide) hb9)
      · obtain rfl : k = ks.length := by omega
        have HZ : Hid (errSch ((X.take i).map Prod.fst) (nm, ks) = 0) := by
          show _ = _
          unfold errSch
          rw [if_neg (by rw [HN7.out]; decide), if_neg (by rw [HM8.out]; decide), if_neg h6, if_neg]
          rintro ⟨x, hx, h1, h2⟩
          obtain ⟨j, hj, rfl⟩ := List.getElem_of_mem hx
          exact (HALL.out j hj hj).elim h1 h2
        go_wp2_with fail
        refine (rlNew_ok (ks.length : Nat) wr (by omega) (by omega)).mono ?_
        rintro e w4 ⟨rfl, hx4⟩
        have hx5 : Ext w4 (w4.alloc (.cells #[.int .i64 (ks.length : Nat), .slice none 0 0] 56)) := (Ext.refl w4).alloc _
        have hrl := Row.new w4 56 [.int .i64 (ks.length : Nat), .slice none 0 0]
        have hbo : Below wo.heap.size wo (w4.alloc (.cells #[.int .i64 (ks.length : Nat), .slice none 0 0] 56)) := Below.then (Below.then (Below.then HX1.out.below HX2.out.below HX1.out.size) hx4.below (by have := HX1.out.size; have := HX2.out.size; omega)) hx5.below (by have := HX1.out.size; have := HX2.out.size; have := hx4.size; omega)
        obtain ⟨w5, hw5⟩ : ∃ w5, w5 = w4.alloc (.cells #[.int .i64 (ks.length : Nat), .slice none 0 0] 56) := ⟨_, rfl⟩
        rw [← hw5] at hrl hbo hx5
        have HRL := Lib.hid hrl
        have HBO := Lib.hid hbo
        have HRS5 := Lib.hid ((HRS2.out.up hx4.below).up hx5.below)
        have HW5 := Lib.hid hw5
        have hlo4 : wo.heap.size ≤ w4.heap.size := by have := HX1.out.size; have := HX2.out.size; have := hx4.size; omega
        clear hx4 hx5 hrl hbo hw5
        go_upto_region 22 with (fail)
        rw [← HW5.out]
        obtain ⟨rb, hrb⟩ : ∃ rb, rb = w4.heap.size := ⟨_, rfl⟩
        rw [← hrb] at HRL hlo4 ⊢
        clear hrb HW5 f1 f2 e0 e1 e2 fz fz2
        have hz1 := HRS5.out.lt
        have hz2 := HRL.out.lt
        have HKP : Hid (∀ V, Below w5.heap.size w5 V → V.cell? ⟨wo.heap.size, 0, none⟩ = some (.string nm) ∧ V.cell? ⟨wo.heap.size, 1, none⟩ = some (.slice KA ks.length KC) ∧ V.cell? ⟨rb, 0, none⟩ = some (.int .i64 (ks.length : Nat)) ∧ V.cell? ⟨rb, 1, none⟩ = some (.slice none 0 0)) := fun V hb => ⟨(HRS5.out.up hb).cell 0, (HRS5.out.up hb).cell 1, (HRL.out.up hb).cell 0, (HRL.out.up hb).cell 1⟩
        have HOV := Lib.hid (fun V (hb : Below w5.heap.size w5 V) => map_up HO.out (Below.then HBO.out hb HBO.out.size))
        have hrbo : rb ≠ w.heap.size + 1 := by omega
        refine wp_region_held_drew (S := (fun w' => w'.cell? ⟨wo.heap.size, 0, none⟩ = some (.string nm) ∧ w'.cell? ⟨wo.heap.size, 1, none⟩ = some (.slice KA ks.length KC) ∧ w'.cell? ⟨rb, 0, none⟩ = some (.int .i64 (ks.length : Nat)) ∧ w'.cell? ⟨rb, 1, none⟩ = some (.slice none 0 0))) (by kernel_rfl) (HKP.out w5 (Below.refl _ _)) (fun hHeld => ?_)
        refine takeOp (i := 0) (v := ?_) (some 79) rfl rfl (by kernel_rfl) (by kernel_rfl) (by kernel_rfl) (fun _ _ _ h => h) (Or.inl ⟨by rfl, ?_⟩) (by assumption) ?_
        rotate_left 1
        · (intro w0 hSw; (try dsimp only at hSw); go_simp; try (with_reducible rfl))
        try simp only [Act.put, List.setIfInBounds_toArray, List.set_cons_succ, List.set_cons_zero]
        refine takeOp (i := 1) (v := ?_) (some 80) rfl rfl (by kernel_rfl) (by kernel_rfl) (by kernel_rfl) (fun _ _ _ h => h) (Or.inl ⟨by rfl, ?_⟩) (by assumption) ?_
        rotate_left 1
        · (intro w0 hSw; (try dsimp only at hSw); go_simp; try (with_reducible rfl))
        try simp only [Act.put, List.setIfInBounds_toArray, List.set_cons_succ, List.set_cons_zero]
        refine takeOp (i := 2) (v := ?_) (some 81) rfl rfl (by kernel_rfl) (by kernel_rfl) (by kernel_rfl) (fun _ _ _ h => h) (Or.inl ⟨by rfl, ?_⟩) (by assumption) ?_
        rotate_left 1
        · (intro w0 hSw; (try dsimp only at hSw); go_simp; try (with_reducible rfl))
        try simp only [Act.put, List.setIfInBounds_toArray, List.set_cons_succ, List.set_cons_zero]
        refine takeOp (i := 3) (v := ?_) (some 82) rfl rfl (by kernel_rfl) (by kernel_rfl) (by kernel_rfl) (fun _ _ _ h => h) (Or.inl ⟨by rfl, ?_⟩) (by assumption) ?_
        rotate_left 1
        · (intro w0 hSw; (try dsimp only at hSw); go_simp; try (with_reducible rfl))
        try simp only [Act.put, List.setIfInBounds_toArray, List.set_cons_succ, List.set_cons_zero]
        refine takeOp (i := 4) (v := ?_) (some 83) rfl rfl (by kernel_rfl) (by kernel_rfl) (by kernel_rfl) (fun _ _ _ h => h) (Or.inl ⟨by rfl, ?_⟩) (by assumption) ?_
        rotate_left 1
        · (intro w0 hSw; (try dsimp only at hSw); go_simp; try (with_reducible rfl))
        try simp only [Act.put, List.setIfInBounds_toArray, List.set_cons_succ, List.set_cons_zero]
        refine takeOp (i := 6) (v := ?_) (some 85) rfl rfl (by kernel_rfl) (by kernel_rfl) (by kernel_rfl) (fun _ _ _ h => h) (Or.inl ⟨by rfl, ?_⟩) (by assumption) ?_
        rotate_left 1
        · (intro w0 hSw; (try dsimp only at hSw); go_simp; try (with_reducible rfl))
        try simp only [Act.put, List.setIfInBounds_toArray, List.set_cons_succ, List.set_cons_zero]
        refine wpAnyH_ready (rs := [5]) (by kernel_rfl) (by simp) ?_
        refine AllReadyH.cons rfl (fun K hK => ?_) AllReadyH.nil
        go_simp
        refine (cloneInt_any KA KC ks w5.drew ((Sl.below HSK.out HBO.out (Nat.le_refl _)).more HBO.out.size) (by omega)).mono ?_
        rintro e V1 ⟨v, rfl, hown, hb⟩
        obtain ⟨CA, CC, rfl, hcc, hcm, -⟩ := own_cut hown (by decide)
        have HV1 : Hid (Below w5.heap.size w5 V1) := Below.undrew hb
        have HOWN := Lib.hid hown
        clear hown hb hcc hcm
        go_wp2_with fail
        refine hK.out _ _ (HKP.out V1 HV1.out) (fun hHeld => ?_)
        clear hK K
        try simp only [Act.put, List.setIfInBounds_toArray, List.set_cons_succ, List.set_cons_zero]
        refine takeOp (i := 7) (v := ?_) (some 86) rfl rfl (by kernel_rfl) (by kernel_rfl) (by kernel_rfl) (fun _ _ _ h => h) (Or.inl ⟨by rfl, ?_⟩) (by assumption) ?_
        rotate_left 1
        · (intro w0 hSw; (try dsimp only at hSw); go_simp; try (with_reducible rfl))
        try simp only [Act.put, List.setIfInBounds_toArray, List.set_cons_succ, List.set_cons_zero]
        refine wpAnyH_ready (rs := [8]) (by kernel_rfl) (by simp) ?_
        refine AllReadyH.cons rfl (fun K hK => ?_) AllReadyH.nil
        refine stepUpd (w := V1) rfl (.tmp 79) (.tmp 81) (.tmp 86) 26 rfl 9 99 keyedS Tryz.underlying26 (w.heap.size + 1) (Maps.size D) D (by simp [Act.eval]) (HOV.out V1 HV1.out) (by rw [HENT.out.1, List.length_take]; simp only [maxLen]; omega) (.string nm) (.agg #[.slice CA ks.length CC, .int .i64 (ks.length : Nat), .slice none 0 0]) (litS nm) (by simp [Act.eval]) (by simp [Act.eval]) (keyS HNL.out) ?_
        intro V2 hown2 hg2
        have HG2 := Lib.hid hg2
        have HO2 := Lib.hid hown2
        have KEEP8 : V2.cell? ⟨wo.heap.size, 0, none⟩ = some (.string nm) ∧ V2.cell? ⟨wo.heap.size, 1, none⟩ = some (.slice KA ks.length KC) ∧ V2.cell? ⟨rb, 0, none⟩ = some (.int .i64 (ks.length : Nat)) ∧ V2.cell? ⟨rb, 1, none⟩ = some (.slice none 0 0) := by
          have q1 := (HRS5.out.up HV1.out).grown hg2 (by intro e; injection e with e; omega)
          have q2 := (HRL.out.up HV1.out).grown hg2 (by intro e; injection e with e; exact hrbo e)
          exact ⟨q1.cell 0, q1.cell 1, q2.cell 0, q2.cell 1⟩
        clear hown2 hg2
        refine hK.out _ _ KEEP8 (fun hHeld => ?_)
        clear hK K
        try simp only [Act.put]
        try simp only [List.setIfInBounds_toArray]
        try simp only [List.set_cons_succ]
        try simp only [List.set_cons_zero]
        refine wpAnyH_done (by kernel_rfl) ?_ _
        have HB1V : Hid (Below wo.heap.size wo V1) := Below.then HBO.out HV1.out HBO.out.size
        have hlt : w.heap.size + 1 < V1.heap.size := by have := HB1V.out.size; omega
        have HST : Hid (Stay (fun b => (P b ∧ b ≠ w.heap.size) ∧ b ≠ w.heap.size + 1) wo V2) := (Stay.of HB1V.out).trans (Stay.grown HG2.out (fun e => e.2 rfl))
        have HEM : Hid (EntM (fun b => (P b ∧ b ≠ w.heap.size) ∧ b ≠ w.heap.size + 1) V2 (.agg #[.slice CA ks.length CC, .int .i64 (ks.length : Nat), .slice none 0 0]) ks []) := by
          have hs := own_slip (P := fun b => (P b ∧ b ≠ w.heap.size) ∧ b ≠ w.heap.size + 1) HOWN.out rfl fun b hb => by
            have hb : w5.heap.size ≤ b := hb
            have := HBO.out.size
            exact ⟨⟨HPN.out _ (by omega), by omega⟩, by omega⟩
          exact ⟨CA, CC, none, 0, rfl, by omega, hs.keep (Stay.grown HG2.out (fun e => e.2 rfl)), Nat.le_refl _, by omega, SlRsP.nil, RowsOk.nil _⟩
        have HADD : Hid (EntsM (fun b => (P b ∧ b ≠ w.heap.size) ∧ b ≠ w.heap.size + 1) (X.take (i + 1)) V2 (D.put (litS nm) (.held (.agg #[.slice CA ks.length CC, .int .i64 (ks.length : Nat), .slice none 0 0]))) (fun _ => [])) := by
          show EntsM _ _ _ _ _
          rw [HTK.out]
          exact EntsM.add HENT.out (HO.out.tidy keyedS) HM8.out HST.out HEM.out
        have HROW2 : Hid (Row V2 w.heap.size 28 [.map none]) := (HROW.out.up HB1V.out).grown HG2.out (by intro e; injection e with e; omega)
        have HBW2 : Hid (Below w.heap.size w V2) := (Below.then HB.out HB1V.out hzb).grown HG2.out (by have := HB1V.out.size; omega) (fun k hk => by injection hk with hk; omega)
        have HZZ : Hid (w.heap.size + 1 + 1 ≤ V2.heap.size) := by show _ ≤ _; have := HG2.out.size; omega
        go_wp2
        go_roundw
        case rel => exact ⟨i + 1, _, hil, by go_num, HGOOD.out HZ.out, map_tight HO2.out, HADD.out, HROW2.out, HBW2.out, HZZ.out⟩
        case measure => simp [intOf]; omega
end
section
open Go.RowKit Go.Sort Go.ChangeMaps Go.WideShapes

set_option maxHeartbeats 400000 in
theorem rwValid_max (XA : Option Addr) (XC : Nat) (x : RL.R) (w : World) (hx : SlR w.heap.size w XA x) (hxl : x.length ≤ 1000000) (hs : ∀ v ∈ x, v.str.size ≤ 9223372036854775807) :
    Calls Tryz.prog 55 #[.slice XA x.length XC] w fun e w' => e = .returned (.bool (x.all RL.validV)) ∧ Ext w w' := by
  have HX := Lib.hid hx
  have HST := Lib.hid hs
  clear hx hs
  go_enter Tryz.func55, Tryz.ntmps55
  go_wp2
  go_loopw [6] (fun i wr => ∃ k : Nat, k ≤ x.length ∧ i = .int .i64 k ∧ x.all RL.validV = (x.drop k).all RL.validV ∧ Ext w wr) (fun i _ => x.length - (intOf i).toNat)
  case atStart => exact ⟨0, Nat.zero_le _, rfl, by simp, Ext.refl _⟩
  case round =>
    obtain ⟨k, hka, rfl, hd, he⟩ := hrel
    have HD := Lib.hid hd
    clear hd
    by_cases h1 : k < x.length
    · obtain ⟨b, o, rfl, hb, c1, c2, c3⟩ := slR_at HX.out h1
      obtain ⟨hc, hf⟩ := he.rules
      have HN := Lib.hid (HD.out.trans (by rw [List.drop_eq_getElem_cons h1, List.all_cons] : (x.drop k).all RL.validV = (RL.validV x[k] && (x.drop (k + 1)).all RL.validV)))
      have HC : Hid (∀ W, Calls Tryz.prog 73 #[vv x[k]] W fun e w' => e = .returned (.bool (RL.validV x[k])) ∧ Ext W w') := fun W => vValid_any x[k] W (HST.out _ (List.getElem_mem h1))
      generalize x[k] = u at c1 c2 c3 HN HC
      cases hv : RL.validV u
      · rw [hv] at HC HN
        clear hv
        go_wp2_with fail
        refine (HC.out _).mono ?_
        rintro e w2 ⟨rfl, hx2⟩
        have HE2 := Lib.hid (he.trans hx2)
        clear hc hf c1 c2 c3 hx2 he
        go_wp2
        go_ret
        exact ⟨ret_bool (by rw [HN.out]; rfl), HE2.out⟩
      · rw [hv] at HC HN
        clear hv
        go_wp2_with fail
        refine (HC.out _).mono ?_
        rintro e w2 ⟨rfl, hx2⟩
        have HE2 := Lib.hid (he.trans hx2)
        clear hc hf c1 c2 c3 hx2 he
        go_wp2
        go_roundw
        case rel => exact ⟨k + 1, by omega, by go_num, by rw [HN.out]; rfl, HE2.out⟩
        case measure => simp [intOf]; omega
    · have HR := Lib.hid (HD.out.trans (by rw [List.drop_of_length_le (by omega)]; rfl : (x.drop k).all RL.validV = true))
      go_wp2
      go_ret
      exact ⟨ret_bool HR.out.symm, he⟩

def checkE (ks : List Int) (x : RL.R) : Int := if x.length ≠ ks.length then 6 else if x.all RL.validV = false then 4 else if x.map (·.kind) = ks then 0 else 5
def checkF (S : Sch) (nm : ByteArray) (x : RL.R) : Int := match S.find? (fun p => decide (p.1 = nm)) with
  | none => 7
  | some p => checkE p.2 x
theorem DbM.ents {P : Nat → Prop} {S : Sch} {w : World} {m : Value} {F : Cont} (h : DbM P S w m F) : ∃ b D, m = .map (some b) ∧ P b ∧ w.ownsMap Tryz.prog 9 heldR b (Maps.size D) D ∧ EntsM P S w D F := by
  obtain ⟨b, D, h1, h2, h3, h4, h5, h6⟩ := h
  exact ⟨b, D, h1, h2, h3, h4, h5, h6⟩

set_option maxHeartbeats 4000000 in
theorem ctCheck_any {P : Nat → Prop} {S : Sch} {m : Value} {F : Cont} (del : Bool) (nm : ByteArray) (RA : Option Addr) (RC : Nat) (x : RL.R) (w : World) (hd : DbM P S w m F) (hnm : nm.size ≤ 9223372036854775807) (hx : SlR w.heap.size w RA x) (hxl : x.length ≤ 1000000) (hs : ∀ v ∈ x, v.str.size ≤ 9223372036854775807) :
    Calls Tryz.prog 21 #[.agg #[m], .agg #[.bool del, .string nm, .slice RA x.length RC]] w fun e w' => e = .returned (.int .i64 (checkF S nm x)) ∧ Ext w w' := by
  obtain ⟨b, D, rfl, -, hown, hent⟩ := hd.ents
  obtain ⟨W0, hW0⟩ : ∃ W0, W0 = (w.alloc (.cells #[.map (some b)] 28)).alloc (.cells #[.bool del, .string nm, .slice RA x.length RC] 53) := ⟨_, rfl⟩
  have hx0 : Ext w W0 := by rw [hW0]; exact ((Ext.refl w).alloc _).alloc _
  have hr1 : Row W0 w.heap.size 28 [.map (some b)] := by rw [hW0]; exact (Row.new w 28 _).alloc _
  have hr2 : Row W0 (w.heap.size + 1) 53 [.bool del, .string nm, .slice RA x.length RC] := by
    have h := Row.new (w.alloc (.cells #[.map (some b)] 28)) 53 [.bool del, .string nm, .slice RA x.length RC]
    rw [World.size_alloc] at h
    rw [hW0]; exact h
  have hm0 := map_up hown hx0.below
  have HX0 := Lib.hid hx0
  have HR2 := Lib.hid hr2
  have f0 : W0.cell? ⟨w.heap.size, 0, none⟩ = some (.map (some b)) := hr1.cell 0
  have f1 : W0.cell? ⟨w.heap.size + 1, 1, none⟩ = some (.string nm) := hr2.cell 1
  have z1 := hr1.lt
  have z2 := hr2.lt
  have HX := Lib.hid hx
  have HS := Lib.hid hs
  have hhas := hent.has nm
  cases hf : S.find? (fun p => decide (p.1 = nm)) with
  | none =>
    have hmem : memB nm (S.map Prod.fst) = false := by
      cases hmm : memB nm (S.map Prod.fst)
      · rfl
      · obtain ⟨p, hp, e⟩ := List.mem_map.1 (memB_iff.1 hmm)
        have := List.find?_eq_none.1 hf p hp
        simp [e] at this
    rw [hmem] at hhas
    have hlk := (look_no keyedS Tryz.underlying26 zeroEnt hm0 (keyS hnm) hhas).1
    have HCF : Hid (checkF S nm x = 7) := by show _ = _; unfold checkF; rw [hf]
    clear hr1 hr2 hx0 hown hent hm0 hhas hmem hf hx hs hd
    go_enter Tryz.func21, Tryz.ntmps21
    go_upto_region 1 with (fail)
    rw [← hW0]
    clear hW0
    go_wp2_with fail
    exact bodyPost_ret (v := .int .i64 7) (by simp [results, Tryz.results21, go_sem]) rfl ⟨by rw [HCF.out], HX0.out.alloc _⟩
  | some p =>
    have hp : p ∈ S := List.mem_of_find?_eq_some hf
    have hpe : p.1 = nm := by have := List.find?_some hf; simpa using this
    obtain ⟨nm2, ks⟩ := p
    have hpe : nm2 = nm := hpe
    subst hpe
    obtain ⟨val, hv1, KA, KC, A, C, rfl, hk6, hki, hxc, hxm, hsl, hro⟩ := hent.2.2 (nm2, ks) hp
    have hlk := (look_yes keyedS Tryz.underlying26 zeroEnt hm0 (keyS hnm) hv1).1
    have HCF : Hid (checkF S nm2 x = checkE ks x) := by show _ = _; unfold checkF; rw [hf]
    have HKI := Lib.hid hki
    have hk6 : ks.length ≤ 6 := hk6
    obtain ⟨W1, hW1⟩ : ∃ W1, W1 = W0.alloc (.cells #[.slice KA ks.length KC, .int .i64 (ks.length : Nat), .slice A (F nm2).length C] 99) := ⟨_, rfl⟩
    have hx1 : Ext W0 W1 := by rw [hW1]; exact (Ext.refl W0).alloc _
    have hr3 : Row W1 W0.heap.size 99 [.slice KA ks.length KC, .int .i64 (ks.length : Nat), .slice A (F nm2).length C] := by rw [hW1]; exact Row.new W0 99 _
    have hr4 := hr2.up hx1.below
    have f2 : W1.cell? ⟨W0.heap.size, 0, none⟩ = some (.slice KA ks.length KC) := hr3.cell 0
    have f3 : W1.cell? ⟨w.heap.size + 1, 2, none⟩ = some (.slice RA x.length RC) := hr4.cell 2
    have z3 := hr3.lt
    have z4 := hr4.lt
    have HR3 := Lib.hid hr3
    have HR4 := Lib.hid hr4
    have HX1 := Lib.hid hx1
    clear hr1 hr2 hr3 hr4 hx0 hx1 hown hent hm0 hhas hf hx hs hd hv1 hki hsl hro hxc hxm
    go_enter Tryz.func21, Tryz.ntmps21
    go_upto_region 1 with (fail)
    rw [← hW0]
    clear hW0
    go_upto_region 2 with (fail)
    rw [← hW1]
    clear hW1 hlk f0 f1
    by_cases hl : x.length = ks.length
    rotate_left
    · have hne : ((x.length : Int) != (ks.length : Int)) = true := by
        have : (x.length : Int) ≠ (ks.length : Int) := by omega
        simpa using this
      have HCE : Hid (checkE ks x = 6) := by show _ = _; unfold checkE; rw [if_pos hl]
      go_wp2_with fail
      exact bodyPost_ret (v := .int .i64 6) (by simp [results, Tryz.results21, go_sem]) rfl ⟨by rw [HCF.out, HCE.out], HX0.out.trans HX1.out⟩
    have hne : ((x.length : Int) != (ks.length : Int)) = false := by
      have : (x.length : Int) = (ks.length : Int) := by omega
      simpa using this
    have HLL := Lib.hid hl
    clear hl
    go_upto_region 6 with (fail)
    have HV := Lib.hid (rwValid_max RA RC x W1 ((HX.out.ext (Nat.le_refl _) (HX0.out.trans HX1.out)).more (HX0.out.trans HX1.out).size) hxl HS.out)
    go_wp2_with fail
    refine HV.out.mono ?_
    rintro e w2 ⟨rfl, hx2⟩
    have r4 := HR4.out.up hx2.below
    have r3 := HR3.out.up hx2.below
    have HX2 := Lib.hid hx2
    have f4 : w2.cell? ⟨W0.heap.size, 0, none⟩ = some (.slice KA ks.length KC) := r3.cell 0
    have f5 : w2.cell? ⟨w.heap.size + 1, 2, none⟩ = some (.slice RA x.length RC) := r4.cell 2
    have z5 := r3.lt
    have z6 := r4.lt
    have HR3 := Lib.hid r3
    have HR4 := Lib.hid r4
    clear hx2 HV f2 f3 z3 z4 r3 r4
    cases hv : x.all RL.validV
    · have HCE : Hid (checkE ks x = 4) := by show _ = _; unfold checkE; rw [if_neg (by simpa using HLL.out), if_pos hv]
      go_wp2_with fail
      exact bodyPost_ret (v := .int .i64 4) (by simp [results, Tryz.results21, go_sem]) rfl ⟨by rw [HCF.out, HCE.out], (HX0.out.trans HX1.out).trans HX2.out⟩
    have HVV := Lib.hid hv
    clear hv
    have HXW : Hid (Ext w w2) := (HX0.out.trans HX1.out).trans HX2.out
    have HSX := Lib.hid ((HX.out.ext (Nat.le_refl _) HXW.out).more HXW.out.size)
    have HSK : Hid (SlIP P w2 KA ks) := HKI.out.keep (Stay.of HXW.out.below)
    go_wp2_with fail
    go_loopw [35] (fun c wx => ∃ k : Nat, k ≤ ks.length ∧ c = .int .i64 k ∧ (x.map (·.kind)).take k = ks.take k ∧ Ext w2 wx) (fun c _ => ks.length - (intOf c).toNat)
    case atStart => exact ⟨0, Nat.zero_le _, rfl, rfl, Ext.refl _⟩
    case round =>
      obtain ⟨k, hk, rfl, hall, hxr⟩ := hrel
      have HALL := Lib.hid hall
      have HXR := Lib.hid hxr
      have HSX2 := Lib.hid ((HSX.out.ext (Nat.le_refl _) hxr).more hxr.size)
      have HSK2 : Hid (SlIP P wr KA ks) := HSK.out.keep (Stay.of hxr.below)
      have r3 := HR3.out.up hxr.below
      have r4 := HR4.out.up hxr.below
      have f4 : wr.cell? ⟨W0.heap.size, 0, none⟩ = some (.slice KA ks.length KC) := r3.cell 0
      have f5 : wr.cell? ⟨w.heap.size + 1, 2, none⟩ = some (.slice RA x.length RC) := r4.cell 2
      have z5 := r3.lt
      have z6 := r4.lt
      have HXW2 := Lib.hid (HXW.out.trans hxr)
      clear hall hxr r3 r4
      by_cases hkl : k < ks.length
      · obtain ⟨kb, ko, rfl, hkb, -, hkc⟩ := HSK2.out (by intro h0; rw [h0] at hkl; simp at hkl)
        have kc := hkc k (.int .i64 ks[k]) (by rw [List.getElem?_map, List.getElem?_eq_getElem hkl]; rfl)
        have hkx : k < x.length := by have := HLL.out; omega
        obtain ⟨xb, xo, rfl, hxb, c1, c2, c3⟩ := slR_at HSX2.out hkx
        have g1 : (0 : Int) ≤ (k : Int) := by omega
        have g2 : (k : Int) < (ks.length : Int) := by omega
        have g3 : (k : Int) < (x.length : Int) := by omega
        have hw2 : IntKind.i64.wrap ((k : Int) + 1) = ((k + 1 : Nat) : Int) := by rw [IntWalk.i64_in _ (by omega)]; omega
        have HKK : Hid (x[k].kind = ks[k] → (x.map (·.kind)).take (k + 1) = ks.take (k + 1)) := fun e => by
          rw [List.take_succ_eq_append_getElem (show k < (x.map (·.kind)).length by rw [List.length_map]; exact hkx), List.take_succ_eq_append_getElem hkl, HALL.out, List.getElem_map, e]
        have HKN : Hid (x[k].kind ≠ ks[k] → x.map (·.kind) ≠ ks) := fun e h => e (by
          have : (x.map (·.kind))[k]'(by rw [List.length_map]; exact hkx) = ks[k] := by simp only [h]
          rw [List.getElem_map] at this
          exact this)
        clear hkc
        generalize x[k] = v at *
        generalize ks[k] = kk at *
        by_cases he : v.kind = kk
        · have hne : (v.kind != kk) = false := by rw [he]; simp
          have HK2 := Lib.hid (HKK.out he)
          clear he HKK HKN
          go_upto_region 11 with (fail)
          refine wp_region_held_drew (S := (fun w' => w'.cell? ⟨w.heap.size + 1, 2, none⟩ = some (.slice (some ⟨xb, xo, none⟩) x.length RC) ∧ w'.cell? ⟨xb, xo + k * 3, none⟩ = some (.int .i64 v.kind) ∧ w'.cell? ⟨W0.heap.size, 0, none⟩ = some (.slice (some ⟨kb, ko, none⟩) ks.length KC) ∧ w'.cell? ⟨kb, ko + k, none⟩ = some (.int .i64 kk))) (by kernel_rfl) ⟨f5, c1, f4, kc⟩ (fun hHeld => ?_)
          refine takeOp (i := 0) (v := ?_) (some 38) rfl rfl (by kernel_rfl) (by kernel_rfl) (by kernel_rfl) (fun _ _ _ h => h) (Or.inl ⟨by rfl, ?_⟩) (by assumption) ?_
          rotate_left 1
          · (intro w0 hSw; (try dsimp only at hSw); go_simp; try (with_reducible rfl))
          try simp only [Act.put, List.setIfInBounds_toArray, List.set_cons_succ, List.set_cons_zero]
          refine takeOp (i := 1) (v := ?_) (some 39) rfl rfl (by kernel_rfl) (by kernel_rfl) (by kernel_rfl) (fun _ _ _ h => h) (Or.inl ⟨by rfl, ?_⟩) (by assumption) ?_
          rotate_left 1
          · (intro w0 hSw; (try dsimp only at hSw); go_simp; try (with_reducible rfl))
          try simp only [Act.put, List.setIfInBounds_toArray, List.set_cons_succ, List.set_cons_zero]
          refine takeOp (i := 2) (v := ?_) (some 40) rfl rfl (by kernel_rfl) (by kernel_rfl) (by kernel_rfl) (fun _ _ _ h => h) (Or.inl ⟨by rfl, ?_⟩) (by assumption) ?_
          rotate_left 1
          · (intro w0 hSw; (try dsimp only at hSw); go_simp; try (with_reducible rfl))
          try simp only [Act.put, List.setIfInBounds_toArray, List.set_cons_succ, List.set_cons_zero]
          refine takeOp (i := 3) (v := ?_) (some 41) rfl rfl (by kernel_rfl) (by kernel_rfl) (by kernel_rfl) (fun _ _ _ h => h) (Or.inl ⟨by rfl, ?_⟩) (by assumption) ?_
          rotate_left 1
          · (intro w0 hSw; (try dsimp only at hSw); go_simp; try (with_reducible rfl))
          try simp only [Act.put, List.setIfInBounds_toArray, List.set_cons_succ, List.set_cons_zero]
          refine takeOp (i := 4) (v := ?_) (some 42) rfl rfl (by kernel_rfl) (by kernel_rfl) (by kernel_rfl) (fun _ _ _ h => h) (Or.inl ⟨by rfl, ?_⟩) (by assumption) ?_
          rotate_left 1
          · (intro w0 hSw; (try dsimp only at hSw); go_simp; try (with_reducible rfl))
          try simp only [Act.put, List.setIfInBounds_toArray, List.set_cons_succ, List.set_cons_zero]
          refine takeOp (i := 5) (v := ?_) (some 43) rfl rfl (by kernel_rfl) (by kernel_rfl) (by kernel_rfl) (fun _ _ _ h => h) (Or.inl ⟨by rfl, ?_⟩) (by assumption) ?_
          rotate_left 1
          · (intro w0 hSw; (try dsimp only at hSw); go_simp; try (with_reducible rfl))
          try simp only [Act.put, List.setIfInBounds_toArray, List.set_cons_succ, List.set_cons_zero]
          refine takeOp (i := 6) (v := ?_) (some 44) rfl rfl (by kernel_rfl) (by kernel_rfl) (by kernel_rfl) (fun _ _ _ h => h) (Or.inl ⟨by rfl, ?_⟩) (by assumption) ?_
          rotate_left 1
          · (intro w0 hSw; (try dsimp only at hSw); go_simp; try (with_reducible rfl))
          try simp only [Act.put, List.setIfInBounds_toArray, List.set_cons_succ, List.set_cons_zero]
          refine takeOp (i := 7) (v := ?_) (some 45) rfl rfl (by kernel_rfl) (by kernel_rfl) (by kernel_rfl) (fun _ _ _ h => h) (Or.inl ⟨by rfl, ?_⟩) (by assumption) ?_
          rotate_left 1
          · (intro w0 hSw; (try dsimp only at hSw); go_simp; try (with_reducible rfl))
          try simp only [Act.put, List.setIfInBounds_toArray, List.set_cons_succ, List.set_cons_zero]
          refine takeOp (i := 8) (v := ?_) (some 46) rfl rfl (by kernel_rfl) (by kernel_rfl) (by kernel_rfl) (fun _ _ _ h => h) (Or.inl ⟨by rfl, ?_⟩) (by assumption) ?_
          rotate_left 1
          · (intro w0 hSw; (try dsimp only at hSw); go_simp; try (with_reducible rfl))
          try simp only [Act.put, List.setIfInBounds_toArray, List.set_cons_succ, List.set_cons_zero]
          refine takeOp (i := 9) (v := ?_) (some 47) rfl rfl (by kernel_rfl) (by kernel_rfl) (by kernel_rfl) (fun _ _ _ h => h) (Or.inl ⟨by rfl, ?_⟩) (by assumption) ?_
          rotate_left 1
          · (intro w0 hSw; (try dsimp only at hSw); go_simp; try (with_reducible rfl))
          try simp only [Act.put, List.setIfInBounds_toArray, List.set_cons_succ, List.set_cons_zero]
          refine takeOp (i := 10) (v := ?_) (some 48) rfl rfl (by kernel_rfl) (by kernel_rfl) (by kernel_rfl) (fun _ _ _ h => h) (Or.inl ⟨by rfl, ?_⟩) (by assumption) ?_
          rotate_left 1
          · (intro w0 hSw; (try dsimp only at hSw); go_simp; try (with_reducible rfl))
          try simp only [Act.put, List.setIfInBounds_toArray, List.set_cons_succ, List.set_cons_zero]
          refine takeOp (i := 11) (v := ?_) (some 49) rfl rfl (by kernel_rfl) (by kernel_rfl) (by kernel_rfl) (fun _ _ _ h => h) (Or.inl ⟨by rfl, ?_⟩) (by assumption) ?_
          rotate_left 1
          · (intro w0 hSw; (try dsimp only at hSw); go_simp; try (with_reducible rfl))
          try simp only [Act.put, List.setIfInBounds_toArray, List.set_cons_succ, List.set_cons_zero]
          refine wpAnyH_done (by kernel_rfl) ?_ _
          go_wp2
          go_roundw
          case rel => exact ⟨k + 1, hkl, by go_num, HK2.out, HXR.out.drew⟩
          case measure => simp [intOf]; omega
        · have hne : (v.kind != kk) = true := by simpa using he
          have HK2 := Lib.hid (HKN.out he)
          have HCE : Hid (checkE ks x = 5) := by show _ = _; unfold checkE; rw [if_neg (by simpa using HLL.out), if_neg (by rw [HVV.out]; decide), if_neg HK2.out]
          clear he HKK HKN
          go_upto_region 11 with (fail)
          refine wp_region_held_drew (S := (fun w' => w'.cell? ⟨w.heap.size + 1, 2, none⟩ = some (.slice (some ⟨xb, xo, none⟩) x.length RC) ∧ w'.cell? ⟨xb, xo + k * 3, none⟩ = some (.int .i64 v.kind) ∧ w'.cell? ⟨W0.heap.size, 0, none⟩ = some (.slice (some ⟨kb, ko, none⟩) ks.length KC) ∧ w'.cell? ⟨kb, ko + k, none⟩ = some (.int .i64 kk))) (by kernel_rfl) ⟨f5, c1, f4, kc⟩ (fun hHeld => ?_)
          refine takeOp (i := 0) (v := ?_) (some 38) rfl rfl (by kernel_rfl) (by kernel_rfl) (by kernel_rfl) (fun _ _ _ h => h) (Or.inl ⟨by rfl, ?_⟩) (by assumption) ?_
          rotate_left 1
          · (intro w0 hSw; (try dsimp only at hSw); go_simp; try (with_reducible rfl))
          try simp only [Act.put, List.setIfInBounds_toArray, List.set_cons_succ, List.set_cons_zero]
          refine takeOp (i := 1) (v := ?_) (some 39) rfl rfl (by kernel_rfl) (by kernel_rfl) (by kernel_rfl) (fun _ _ _ h => h) (Or.inl ⟨by rfl, ?_⟩) (by assumption) ?_
          rotate_left 1
          · (intro w0 hSw; (try dsimp only at hSw); go_simp; try (with_reducible rfl))
          try simp only [Act.put, List.setIfInBounds_toArray, List.set_cons_succ, List.set_cons_zero]
          refine takeOp (i := 2) (v := ?_) (some 40) rfl rfl (by kernel_rfl) (by kernel_rfl) (by kernel_rfl) (fun _ _ _ h => h) (Or.inl ⟨by rfl, ?_⟩) (by assumption) ?_
          rotate_left 1
          · (intro w0 hSw; (try dsimp only at hSw); go_simp; try (with_reducible rfl))
          try simp only [Act.put, List.setIfInBounds_toArray, List.set_cons_succ, List.set_cons_zero]
          refine takeOp (i := 3) (v := ?_) (some 41) rfl rfl (by kernel_rfl) (by kernel_rfl) (by kernel_rfl) (fun _ _ _ h => h) (Or.inl ⟨by rfl, ?_⟩) (by assumption) ?_
          rotate_left 1
          · (intro w0 hSw; (try dsimp only at hSw); go_simp; try (with_reducible rfl))
          try simp only [Act.put, List.setIfInBounds_toArray, List.set_cons_succ, List.set_cons_zero]
          refine takeOp (i := 4) (v := ?_) (some 42) rfl rfl (by kernel_rfl) (by kernel_rfl) (by kernel_rfl) (fun _ _ _ h => h) (Or.inl ⟨by rfl, ?_⟩) (by assumption) ?_
          rotate_left 1
          · (intro w0 hSw; (try dsimp only at hSw); go_simp; try (with_reducible rfl))
          try simp only [Act.put, List.setIfInBounds_toArray, List.set_cons_succ, List.set_cons_zero]
          refine takeOp (i := 5) (v := ?_) (some 43) rfl rfl (by kernel_rfl) (by kernel_rfl) (by kernel_rfl) (fun _ _ _ h => h) (Or.inl ⟨by rfl, ?_⟩) (by assumption) ?_
          rotate_left 1
          · (intro w0 hSw; (try dsimp only at hSw); go_simp; try (with_reducible rfl))
          try simp only [Act.put, List.setIfInBounds_toArray, List.set_cons_succ, List.set_cons_zero]
          refine takeOp (i := 6) (v := ?_) (some 44) rfl rfl (by kernel_rfl) (by kernel_rfl) (by kernel_rfl) (fun _ _ _ h => h) (Or.inl ⟨by rfl, ?_⟩) (by assumption) ?_
          rotate_left 1
          · (intro w0 hSw; (try dsimp only at hSw); go_simp; try (with_reducible rfl))
          try simp only [Act.put, List.setIfInBounds_toArray, List.set_cons_succ, List.set_cons_zero]
          refine takeOp (i := 7) (v := ?_) (some 45) rfl rfl (by kernel_rfl) (by kernel_rfl) (by kernel_rfl) (fun _ _ _ h => h) (Or.inl ⟨by rfl, ?_⟩) (by assumption) ?_
          rotate_left 1
          · (intro w0 hSw; (try dsimp only at hSw); go_simp; try (with_reducible rfl))
          try simp only [Act.put, List.setIfInBounds_toArray, List.set_cons_succ, List.set_cons_zero]
          refine takeOp (i := 8) (v := ?_) (some 46) rfl rfl (by kernel_rfl) (by kernel_rfl) (by kernel_rfl) (fun _ _ _ h => h) (Or.inl ⟨by rfl, ?_⟩) (by assumption) ?_
          rotate_left 1
          · (intro w0 hSw; (try dsimp only at hSw); go_simp; try (with_reducible rfl))
          try simp only [Act.put, List.setIfInBounds_toArray, List.set_cons_succ, List.set_cons_zero]
          refine takeOp (i := 9) (v := ?_) (some 47) rfl rfl (by kernel_rfl) (by kernel_rfl) (by kernel_rfl) (fun _ _ _ h => h) (Or.inl ⟨by rfl, ?_⟩) (by assumption) ?_
          rotate_left 1
          · (intro w0 hSw; (try dsimp only at hSw); go_simp; try (with_reducible rfl))
          try simp only [Act.put, List.setIfInBounds_toArray, List.set_cons_succ, List.set_cons_zero]
          refine takeOp (i := 10) (v := ?_) (some 48) rfl rfl (by kernel_rfl) (by kernel_rfl) (by kernel_rfl) (fun _ _ _ h => h) (Or.inl ⟨by rfl, ?_⟩) (by assumption) ?_
          rotate_left 1
          · (intro w0 hSw; (try dsimp only at hSw); go_simp; try (with_reducible rfl))
          try simp only [Act.put, List.setIfInBounds_toArray, List.set_cons_succ, List.set_cons_zero]
          refine takeOp (i := 11) (v := ?_) (some 49) rfl rfl (by kernel_rfl) (by kernel_rfl) (by kernel_rfl) (fun _ _ _ h => h) (Or.inl ⟨by rfl, ?_⟩) (by assumption) ?_
          rotate_left 1
          · (intro w0 hSw; (try dsimp only at hSw); go_simp; try (with_reducible rfl))
          try simp only [Act.put, List.setIfInBounds_toArray, List.set_cons_succ, List.set_cons_zero]
          refine wpAnyH_done (by kernel_rfl) ?_ _
          go_wp2
          exact bodyPost_ret (v := .int .i64 5) (by simp [results, Tryz.results21, go_sem]) rfl ⟨by rw [HCF.out, HCE.out], HXW2.out.drew⟩
      · obtain rfl : k = ks.length := by omega
        have HCE : Hid (checkE ks x = 0) := by
          have h := HALL.out
          rw [List.take_of_length_le (by rw [List.length_map, HLL.out]; exact Nat.le_refl _), List.take_length] at h
          show _ = _
          unfold checkE
          rw [if_neg (by simpa using HLL.out), if_neg (by rw [HVV.out]; decide), if_pos h]
        go_wp2
        exact bodyPost_ret (v := .int .i64 0) (by simp [results, Tryz.results21, go_sem]) rfl ⟨by rw [HCF.out, HCE.out], HXW2.out⟩
end
section
open Go.RowKit Go.Sort

theorem appZ {w : World} {ops : Array Oper} {rest : List Oper} {o : Oper} {a : Act} {Q : Exit → Act → World → Prop} (hgd : o.guard = none) (s x : Operand)
    (ho : o.op = .call { callee := .builtin .append, args := #[s, x], argTypes := #[38, 3] })
    (n : Nat) (hs : a.eval s = .slice none 0 0) (hx : a.eval x = .int .i64 (n : Int)) (h0 : 0 < n) (hn : n ≤ 1000000)
    (h : ∀ G w', n ≤ G → G ≤ 9223372036854775807 → w'.ownsRow w.heap.size 42 1 (.slice (some ⟨w.heap.size, 0, none⟩) 0 G) 0 [] → Below w.heap.size w w' → wpList Tryz.prog ops Q rest (a.put o.dst (.slice (some ⟨w.heap.size, 0, none⟩) n G)) w') : wpList Tryz.prog ops Q (o :: rest) a w := by
  obtain ⟨i0, hi0, hz0, hz1, hz2⟩ := info_parts rowInfo
  have hold : (Builtin.firstCells i0.size 0 (.slice none 0 0)).run Tryz.prog w.drew = .ok ([] : List Value).toArray w.drew := run_firstCells_none w.drew i0.size 0 0 0
  have hrz := Lib.run_append_grow_zeros w 38 3 o.type 42 i0 _ .i64 .i64 Tryz.underlying38 Tryz.underlying3 hi0 hz0 none 0 0 [] hold n h0 (by rw [hz1]; omega) (by omega) (by omega) (by rw [hz2]; omega) (by rw [hz2]; exact growslice_fits (by omega) (by omega))
  rw [Nat.zero_add] at hrz
  have hGn : n ≤ grownCap w n 0 42 := grownCap_ge w _ _ _
  have hG63 : grownCap w n 0 42 ≤ maxLen := grownCap_le_maxLen w n 0 42 (by unfold maxLen; omega)
  refine wpList_plain hgd fun K hK => ?_
  unfold Oper.wp execOp
  simp only [ho, resolve, invoke, builtin, Sem.run_bind, Sem.run_pure, Result.andThen_ok, List.map_toArray, List.map_cons, List.map_nil, hs, hx, hrz]
  refine hK _ _ (h _ _ hGn (by unfold maxLen at hG63; omega) ?_ ((Below.refl _ w).drew.alloc (Nat.le_refl _) _))
  exact ⟨by simp, .inr ⟨w.heap.size, _, _, rfl, Nat.le_refl _, heap_alloc_new w.drew _, Nat.zero_le _, hG63, by simp [Builtin.zeroCells, Value.cells]; omega, by simp⟩⟩

set_option maxHeartbeats 1000000 in
theorem growRows_nil (n : Nat) (w : World) (hn : n ≤ 1000000) :
    Calls Tryz.prog 120 #[.slice none 0 0, .int .i64 n] w fun e w' => ∃ v, e = .returned v ∧ w'.ownsRow w.heap.size 42 1 v 0 [] ∧ Below w.heap.size w w' := by
  have h1 : ¬ ((n : Int) < 0) := by omega
  rcases Nat.eq_zero_or_pos n with h0 | h0
  · subst h0
    go_enter Tryz.func120, Tryz.ntmps120
    go_wp2
    go_ret
    exact ⟨_, rfl, own_nil _ _ _ _, Below.refl _ _⟩
  · go_enter Tryz.func120, Tryz.ntmps120
    go_wp2_with (at_builtin; refine appZ rfl (.tmp 20) (.tmp 21) rfl n rfl rfl h0 hn ?_; intro G w' hG1 hG2 hown hb; have HO := Lib.hid hown; have HB := Lib.hid hb; clear hown hb)
    go_ret
    exact ⟨_, rfl, HO.out, HB.out⟩

set_option maxHeartbeats 1000000 in
theorem concat2_any (P : Nat → Prop) (B cb : Nat) (A1 A2 : Option Addr) (c1 c2 : Nat) (X1 X2 : List RL.R) (w : World) (hrow : Row w cb 38 [.slice A1 X1.length c1, .slice A2 X2.length c2]) (h1 : SlRsP P B w A1 X1) (h2 : SlRsP P B w A2 X2) (hB : B ≤ w.heap.size) (hl1 : X1.length ≤ 100000) (hl2 : X2.length ≤ 100000) :
    Calls Tryz.prog 104 #[.slice (some ⟨cb, 0, none⟩) 2 2] w fun e w' => ∃ v hs, e = .returned v ∧ w'.ownsRow w.heap.size 42 1 v (X1.length + X2.length) hs ∧ Hdrs P B w' hs (X1 ++ X2) ∧ Below w.heap.size w w' := by
  have d0 : w.cell? ⟨cb, 0, none⟩ = some (.slice A1 X1.length c1) := hrow.cell 0
  have d1 : w.cell? ⟨cb, 1, none⟩ = some (.slice A2 X2.length c2) := hrow.cell 1
  have hzc := hrow.lt
  obtain ⟨h1s, hH1, hc1, hn1⟩ := h1.hdrs2
  obtain ⟨h2s, hH2, hc2, hn2⟩ := h2.hdrs2
  have HL1 := Lib.hid hH1.1
  have HL2 := Lib.hid hH2.1
  have HH1 := Lib.hid hH1
  have HH2 := Lib.hid hH2
  have HC1 := Lib.hid hc1
  have HC2 := Lib.hid hc2
  have HN1 := Lib.hid hn1
  have HN2 := Lib.hid hn2
  clear hH1 hH2 hc1 hc2 hn1 hn2 h1 h2 hrow
  generalize X1.length = l1 at *
  generalize X2.length = l2 at *
  go_enter Tryz.func104, Tryz.ntmps104
  go_wp2
  go_loopw [3, 11] (fun z i wr => wr = w ∧ (i = .int .i64 0 ∧ z = .int .i64 0 ∨ i = .int .i64 1 ∧ z = .int .i64 l1 ∨ i = .int .i64 2 ∧ z = .int .i64 ((l1 + l2 : Nat) : Int))) (fun _ i _ => 2 - (intOf i).toNat)
  case atStart => exact ⟨rfl, .inl ⟨rfl, rfl⟩⟩
  case round =>
    obtain ⟨hwr, hk⟩ := hrel
    obtain rfl := hwr.symm
    clear hwr
    rcases hk with ⟨rfl, rfl⟩ | ⟨rfl, rfl⟩ | ⟨rfl, rfl⟩
    · have g1 : ¬ (l1 : Int) < 0 := by omega
      go_wp2
      go_roundw
      case rel => simp
      case measure => simp [intOf]
    · have g1 : ¬ (l1 : Int) + (l2 : Int) < 0 := by omega
      go_wp2
      go_roundw
      case rel => simp
      case measure => simp [intOf]
    · have HGR := Lib.hid (growRows_nil (l1 + l2) w (by omega))
      go_wp2_with fail
      refine HGR.out.mono ?_
      rintro e w1 ⟨v1, rfl, hown1, hb1⟩
      have HO1 := Lib.hid hown1
      have HB1 := Lib.hid hb1
      clear hown1 hb1 HGR
      go_wp2
      go_loopw [6, 27] (fun v i wr => Below w.heap.size w wr ∧ (i = .int .i64 0 ∧ wr.ownsRow w.heap.size 42 1 v 0 [] ∨ i = .int .i64 1 ∧ wr.ownsRow w.heap.size 42 1 v l1 h1s ∨ i = .int .i64 2 ∧ wr.ownsRow w.heap.size 42 1 v (l1 + l2) (h1s ++ h2s))) (fun _ i _ => 2 - (intOf i).toNat)
      case atStart => exact ⟨HB1.out, .inl ⟨rfl, HO1.out⟩⟩
      case round =>
        obtain ⟨hbel, hk⟩ := hrel
        have HB := Lib.hid hbel
        have hzz := hbel.size
        have e0 := (hbel.cell (p := ⟨cb, 0, none⟩) hzc).trans d0
        have e1 := (hbel.cell (p := ⟨cb, 1, none⟩) hzc).trans d1
        clear hbel HB1 HO1
        rcases hk with ⟨rfl, ho⟩ | ⟨rfl, ho⟩ | ⟨rfl, ho⟩
        · have HO := Lib.hid ho
          clear ho
          go_wp2_with (at_builtin; refine appH rfl (.tmp 31) (.tmp 32) rfl w.heap.size u6 0 [] rfl HO.out A1 l1 c1 h1s HL1.out rfl (HC1.out _ (fun p hp _ => HB.out.cell (by omega))) HN1.out HH1.out.cells (by omega) hzz ?_
                       intro v3 w3 hown3 hg3 _
                       have HO3 := Lib.hid hown3
                       have HB3 := Lib.hid (Below.then HB.out (app_grown (B := w.heap.size) hg3 (fun g hk => own_base HO.out hk) hzz) (Nat.le_refl _))
                       clear hown3 hg3)
          go_roundw
          case rel =>
            refine ⟨HB3.out, .inr (.inl ⟨rfl, ?_⟩)⟩
            have h := HO3.out
            rw [Nat.zero_add, List.nil_append] at h
            exact h
          case measure => simp [intOf]
        · have HO := Lib.hid ho
          clear ho
          go_wp2_with (at_builtin; refine appH rfl (.tmp 31) (.tmp 32) rfl w.heap.size u6 l1 h1s rfl HO.out A2 l2 c2 h2s HL2.out rfl (HC2.out _ (fun p hp _ => HB.out.cell (by omega))) HN2.out HH2.out.cells (by omega) hzz ?_
                       intro v3 w3 hown3 hg3 _
                       have HO3 := Lib.hid hown3
                       have HB3 := Lib.hid (Below.then HB.out (app_grown (B := w.heap.size) hg3 (fun g hk => own_base HO.out hk) hzz) (Nat.le_refl _))
                       clear hown3 hg3)
          go_roundw
          case rel => exact ⟨HB3.out, .inr (.inr ⟨rfl, HO3.out⟩)⟩
          case measure => simp [intOf]
        · go_wp2
          go_ret
          exact ⟨_, _, rfl, ho, (HH1.out.keep (fun p hp _ => HB.out.cell (by omega))).append (HH2.out.keep (fun p hp _ => HB.out.cell (by omega))), HB.out⟩

theorem del_at {X : List RL.R} (h : RL.SS X) {x : RL.R} (hm : x ∈ X) : RL.delF X x = X.take (RL.rank X x) ++ X.drop (RL.rank X x + 1) := by
  obtain ⟨hi, e⟩ := (RL.mem_iff_rank h x).1 hm
  have hsplit : X = X.take (RL.rank X x) ++ (X[RL.rank X x] :: X.drop (RL.rank X x + 1)) := by
    conv => lhs; rw [← List.take_append_drop (RL.rank X x) X, List.drop_eq_getElem_cons hi]
  unfold RL.delF
  conv => lhs; rw [hsplit]
  rw [List.filter_append, List.filter_cons_of_neg (by rw [e, RL.tot_cmpR.self]; simp)]
  congr 1
  · rw [List.filter_eq_self]
    intro y hy
    have := RL.lt_rank h x y hy
    simp
    omega
  · rw [List.filter_eq_self]
    intro y hy
    obtain ⟨j, hj, rfl⟩ := List.getElem_of_mem hy
    rw [List.getElem_drop]
    have hj' : RL.rank X x + 1 + j < X.length := by simp at hj; omega
    have := h.get (i := RL.rank X x) (j := RL.rank X x + 1 + j) (by omega) hj'
    rw [e, RL.tot_cmpR.sw X[RL.rank X x + 1 + j] x] at this
    simp
    omega
theorem del_none {X : List RL.R} {x : RL.R} (hm : x ∉ X) : RL.delF X x = X := by
  unfold RL.delF
  rw [List.filter_eq_self]
  intro y hy
  simp [RL.tot_cmpR.z]
  intro e; subst e; exact hm hy
end
section
open Go.RowKit Go.Sort

def DelPost (P : Nat → Prop) (w : World) (n : Int) (X : List RL.R) (x : RL.R) (e : Ending) (w' : World) : Prop :=
  (wrongF n x ≠ 0 → e = .returned (.tuple #[.agg #[.int .i64 0, .slice none 0 0], .bool false, .int .i64 (wrongF n x)])) ∧ (wrongF n x = 0 → ∃ v, e = .returned (.tuple #[v, .bool (decide (x ∈ X)), .int .i64 0]) ∧ RelP P w' n (RL.delF X x) v) ∧ Below w.heap.size w w'

set_option maxHeartbeats 2000000 in
theorem rlDelete_any (P : Nat → Prop) (n : Int) (RA A : Option Addr) (RC C : Nat) (X : List RL.R) (x : RL.R) (w : World) (hX : SlRsP P w.heap.size w RA X) (hPn : ∀ b, w.heap.size ≤ b → P b) (hx : SlR w.heap.size w A x) (hXo : RsOk X) (hxo : ROk x) (hXl : X.length ≤ 60000) (hS : RL.SS X) (hXc : X.length ≤ RC) (hXm : RC ≤ 9223372036854775807) :
    Calls Tryz.prog 80 #[.agg #[.int .i64 n, .slice RA X.length RC], .slice A x.length C] w (DelPost P w n X x) := by
  have HX := Lib.hid hX
  have HPN := Lib.hid hPn
  have HXX := Lib.hid hx
  have HXO := Lib.hid hXo
  have HXO2 := Lib.hid hxo
  have HSS := Lib.hid hS
  clear hX hPn hx hXo hxo hS
  go_enter Tryz.func80, Tryz.ntmps80
  have q1 := (Row.new w 56 [.int .i64 n, .slice RA X.length RC]).alloc (.cells #[.int .i64 0, .slice none 0 0] 56)
  have q2 := Row.new (w.alloc (.cells #[.int .i64 n, .slice RA X.length RC] 56)) 56 [.int .i64 0, .slice none 0 0]
  simp only [World.size_alloc] at q2
  have HQ1 := Lib.hid q1
  have HQ2 := Lib.hid q2
  have HE0 := Lib.hid (((Ext.refl w).alloc (.cells #[.int .i64 n, .slice RA X.length RC] 56)).alloc (.cells #[.int .i64 0, .slice none 0 0] 56))
  clear q1 q2
  go_wp2_with fail
  generalize (w.alloc (.cells #[.int .i64 n, .slice RA X.length RC] 56)).alloc (.cells #[.int .i64 0, .slice none 0 0] 56) = W0 at *
  refine (rlAccepts_any n RA A X.length RC C x W0 (HXX.out.up HE0.out) HXO2.out).mono ?_
  rintro e w1 ⟨rfl, hx1⟩
  have HE1 := Lib.hid (HE0.out.trans hx1)
  have HR1 := Lib.hid (HQ1.out.below hx1.below HQ1.out.lt)
  have HR2 := Lib.hid (HQ2.out.below hx1.below HQ2.out.lt)
  have hz1 : w.heap.size + 1 < w1.heap.size := HR2.out.lt
  clear hx1 HE0 HQ1 HQ2
  by_cases hw : wrongF n x = 0
  rotate_left
  · have hw2 : (wrongF n x != 0) = true := by simpa using hw
    have HW := Lib.hid hw
    have c0 : w1.cell? ⟨w.heap.size + 1, 0, none⟩ = some (.int .i64 0) := HR2.out.cell 0
    have c1 : w1.cell? ⟨w.heap.size + 1, 1, none⟩ = some (.slice none 0 0) := HR2.out.cell 1
    have f0 := HR2.out.frozen 0
    have f1 := HR2.out.frozen 1
    clear hw
    obtain ⟨q, hqe⟩ : ∃ q, q = wrongF n x := ⟨_, rfl⟩
    rw [← hqe] at hw2
    rw [← hqe]
    have HQE := Lib.hid hqe
    clear hqe
    go_wp2
    refine bodyPost_ret (v := .tuple #[.agg #[.int .i64 0, .slice none 0 0], .bool false, .int .i64 q]) (by simp [results, Tryz.results80, go_sem, c0, c1]) rfl ⟨fun _ => by rw [← HQE.out], fun h => absurd h HW.out, ?_⟩
    exact (HE1.out.below.setCell (p := ⟨w.heap.size + 1, 0, none⟩) (show w.heap.size ≤ w.heap.size + 1 by omega) _).setCell (p := ⟨w.heap.size + 1, 1, none⟩) (show w.heap.size ≤ w.heap.size + 1 by omega) _
  have HW := Lib.hid hw
  rw [hw]
  clear hw
  have n0 : w1.cell? ⟨w.heap.size, 0, none⟩ = some (.int .i64 n) := HR1.out.cell 0
  have n1 : w1.cell? ⟨w.heap.size, 1, none⟩ = some (.slice RA X.length RC) := HR1.out.cell 1
  go_wp2_with fail
  refine (rlSearch_any n RA A RC C X x w1 (HX.out.sl.up HE1.out) (HXX.out.up HE1.out) (by omega) HXO.out HXO2.out.1 HSS.out).mono ?_
  rintro e w2 ⟨rfl, hx2⟩
  have HE2 := Lib.hid (HE1.out.trans hx2)
  have HR12 := Lib.hid (HR1.out.below hx2.below HR1.out.lt)
  have HR22 := Lib.hid (HR2.out.below hx2.below HR2.out.lt)
  have hz2 : w.heap.size + 1 < w2.heap.size := HR22.out.lt
  clear hx2 n0 n1 HR1 HR2 HE1
  have n0 : w2.cell? ⟨w.heap.size, 0, none⟩ = some (.int .i64 n) := HR12.out.cell 0
  have n1 : w2.cell? ⟨w.heap.size, 1, none⟩ = some (.slice RA X.length RC) := HR12.out.cell 1
  have c0 : w2.cell? ⟨w.heap.size + 1, 0, none⟩ = some (.int .i64 0) := HR22.out.cell 0
  have c1 : w2.cell? ⟨w.heap.size + 1, 1, none⟩ = some (.slice none 0 0) := HR22.out.cell 1
  have f0 := HR22.out.frozen 0
  have f1 := HR22.out.frozen 1
  by_cases hm : x ∈ X
  rotate_left
  · have HI : Hid (RL.delF X x = X) := del_none hm
    have hd : decide (x ∈ X) = false := by simpa using hm
    have HD := Lib.hid hd
    rw [hd]
    clear hm hd
    generalize RL.rank X x = k at *
    have z0 : (w2.setCell ⟨w.heap.size + 1, 0, none⟩ (.int .i64 n)).cell? ⟨w.heap.size + 1, 0, none⟩ = some (.int .i64 n) := World.cell?_setCell_same _ _ _ c0
    have z1 : ((w2.setCell ⟨w.heap.size + 1, 0, none⟩ (.int .i64 n)).setCell ⟨w.heap.size + 1, 1, none⟩ (.slice RA X.length RC)).cell? ⟨w.heap.size + 1, 1, none⟩ = some (.slice RA X.length RC) := World.cell?_setCell_same _ _ _ ((World.cell?_setCell_other _ _ _ _ (by simp)).trans c1)
    have Z0 := Lib.hid z0
    have Z1 := Lib.hid z1
    have HB := Lib.hid ((HE2.out.below.setCell (p := ⟨w.heap.size + 1, 0, none⟩) (show w.heap.size ≤ w.heap.size + 1 by omega) (.int .i64 n)).setCell (p := ⟨w.heap.size + 1, 1, none⟩) (show w.heap.size ≤ w.heap.size + 1 by omega) (.slice RA X.length RC))
    clear z0 z1
    go_wp2
    refine bodyPost_ret (v := .tuple #[.agg #[.int .i64 n, .slice RA X.length RC], .bool false, .int .i64 0]) (by simp [results, Tryz.results80, go_sem, Z0.out, Z1.out]) rfl ⟨fun h => absurd HW.out h, fun _ => ⟨_, by rw [HD.out], ?_⟩, HB.out⟩
    rw [HI.out]
    refine ⟨RA, RC, rfl, hXc, hXm, ?_⟩
    exact (HX.out.keep (fun p hp _ => HB.out.cell hp)).more HB.out.size
  · have HI : Hid (RL.delF X x = X.take (RL.rank X x) ++ X.drop (RL.rank X x + 1)) := del_at HSS.out hm
    have hd : decide (x ∈ X) = true := by simpa using hm
    have HD := Lib.hid hd
    rw [hd]
    have hrk : RL.rank X x < X.length := ((RL.mem_iff_rank HSS.out x).1 hm).1
    clear hm hd
    generalize RL.rank X x = k at *
    have hw1 : IntKind.i64.wrap ((k : Int) + 1) = ((k + 1 : Nat) : Int) := by rw [IntWalk.i64_in _ (by omega)]; omega
    have hst := slTail RA X.length RC (k + 1) hrk
    have hsh := slHead RA X.length RC k (by omega)
    obtain ⟨TA, hTA⟩ : ∃ TA, TA = tailA RA (k + 1) RC := ⟨_, rfl⟩
    rw [← hTA] at hst
    rw [Int.natCast_add, Int.natCast_one] at hst
    have HX2 := Lib.hid ((HX.out.keep (w' := w2) (fun p hp _ => HE2.out.below.cell hp)))
    have HTAIL : Hid (SlRsP P w.heap.size w2 TA (X.drop (k + 1))) := by rw [hTA]; exact HX2.out.tail hXc (k + 1)
    have HHEAD := Lib.hid (HX2.out.head k)
    clear hTA
    have HCC : Hid (∀ W cb, Below w2.heap.size w2 W → Row W cb 38 [.slice RA k RC, .slice TA (X.length - (k + 1)) (RC - (k + 1))] → Calls Tryz.prog 104 #[.slice (some ⟨cb, 0, none⟩) 2 2] W fun e w' => ∃ v hs, e = .returned v ∧ w'.ownsRow W.heap.size 42 1 v (k + (X.length - (k + 1))) hs ∧ Hdrs (fun b => P b ∧ b ≠ w.heap.size + 1) w.heap.size w' hs (X.take k ++ X.drop (k + 1)) ∧ Below W.heap.size W w') := fun W cb hb hrow => by
      have hk : ∀ p : Addr, p.block < w.heap.size → P p.block → W.cell? p = w2.cell? p := fun p hp _ => hb.cell (by omega)
      have h := concat2_any (fun b => P b ∧ b ≠ w.heap.size + 1) w.heap.size cb RA TA RC (RC - (k + 1)) (X.take k) (X.drop (k + 1)) W (by simpa [Nat.min_eq_left (Nat.le_of_lt hrk)] using hrow) ((HHEAD.out.keep hk).weak (fun b hb h => ⟨h, by omega⟩)) ((HTAIL.out.keep hk).weak (fun b hb h => ⟨h, by omega⟩)) (by have := hb.size; omega) (by simp; omega) (by simp; omega)
      simpa [Nat.min_eq_left (Nat.le_of_lt hrk)] using h
    go_wp2
    go_still_tail 9, (by kernel_rfl)
    go_wp2_with fail
    refine (HCC.out _ w2.heap.size ((Below.refl _ w2).alloc (Nat.le_refl _) _).drew (Row.new w2 38 _)).mono ?_
    rintro e w3 ⟨v3, hs3, rfl, hown3, hH3, hb3⟩
    have hb3' : Below w2.heap.size w2 w3 := Below.then ((Below.refl _ w2).alloc (Nat.le_refl _) _) (Below.undrew hb3) (by simp)
    have hz3 := hb3'.size
    have r16 := HR12.out.below hb3' (by omega)
    have r26 := HR22.out.below hb3' (by omega)
    have m06 : w3.cell? ⟨w.heap.size, 0, none⟩ = some (.int .i64 n) := r16.cell 0
    have c06 : w3.cell? ⟨w.heap.size + 1, 0, none⟩ = some (.int .i64 0) := r26.cell 0
    have c16 : w3.cell? ⟨w.heap.size + 1, 1, none⟩ = some (.slice none 0 0) := r26.cell 1
    have f06 := r26.frozen 0
    have f16 := r26.frozen 1
    obtain ⟨Y, hY⟩ : ∃ Y, Y = X.take k ++ X.drop (k + 1) := ⟨_, rfl⟩
    rw [← hY] at hH3
    have hlY : k + (X.length - (k + 1)) = Y.length := by rw [hY]; simp; omega
    have HYE := Lib.hid hY
    rw [hlY] at hown3
    obtain ⟨A6, C6, rfl, hc6, hm6, hs6'⟩ := own_slrs hown3 (hH3.more (show w.heap.size ≤ w3.heap.size by omega)) (Nat.le_refl _) (fun b hb => ⟨HPN.out b (by simp at hb; omega), by simp at hb; omega⟩)
    have HB3 := Lib.hid (Below.then HE2.out.below hb3' HE2.out.size)
    have HS6 := Lib.hid hs6'
    clear hown3 hb3 hb3' r16 r26 hY hlY hH3 hs6' n0 n1 c0 c1 f0 f1 hst hsh
    go_wp2
    refine bodyPost_ret (v := .tuple #[.agg #[.int .i64 n, .slice A6 Y.length C6], .bool true, .int .i64 0]) ?_ rfl ⟨fun h => absurd HW.out h, fun _ => ⟨_, by rw [HD.out], ?_⟩, ?_⟩
    · have z0 : (w3.setCell ⟨w.heap.size + 1, 0, none⟩ (.int .i64 n)).cell? ⟨w.heap.size + 1, 0, none⟩ = some (.int .i64 n) := World.cell?_setCell_same _ _ _ c06
      have z1 : ((w3.setCell ⟨w.heap.size + 1, 0, none⟩ (.int .i64 n)).setCell ⟨w.heap.size + 1, 1, none⟩ (.slice A6 Y.length C6)).cell? ⟨w.heap.size + 1, 1, none⟩ = some (.slice A6 Y.length C6) := World.cell?_setCell_same _ _ _ ((World.cell?_setCell_other _ _ _ _ (by simp)).trans c16)
      simp [results, Tryz.results80, go_sem, z0, z1]
    · rw [HI.out, ← HYE.out]
      refine ⟨A6, C6, rfl, hc6, hm6, ?_⟩
      have h := (HS6.out.keep (w' := (w3.setCell ⟨w.heap.size + 1, 0, none⟩ (.int .i64 n)).setCell ⟨w.heap.size + 1, 1, none⟩ (.slice A6 Y.length C6)) (fun p hp hne => far_cell (p := ⟨w.heap.size + 1, 1, none⟩) (fun e => hne.2 e.symm) (far_cell (p := ⟨w.heap.size + 1, 0, none⟩) (fun e => hne.2 e.symm) rfl))).weak (P' := P) (fun b _ h => h.1)
      rw [show w3.heap.size = ((w3.setCell ⟨w.heap.size + 1, 0, none⟩ (.int .i64 n)).setCell ⟨w.heap.size + 1, 1, none⟩ (.slice A6 Y.length C6)).heap.size by simp] at h
      exact h
    · exact (HB3.out.setCell (p := ⟨w.heap.size + 1, 0, none⟩) (show w.heap.size ≤ w.heap.size + 1 by omega) _).setCell (p := ⟨w.heap.size + 1, 1, none⟩) (show w.heap.size ≤ w.heap.size + 1 by omega) _
end
end Go.Proofs.YtdadchpiibipoaaGreatDoor

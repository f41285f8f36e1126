/- Parts of the proof, merged: Z6, Z7, W3, Z8, E7, E8, Z9, Z10, V24. -/
import Derived.Test.YtgaffbdcpkbdhaaGreatQ2
import Derived.Carry
import Derived.Test.YtgaffbdcpkbdhaaGreatRows
import Derived.Test.YtgaffbdcpkbdhaaGreatQ1
import Derived.Lib.SliceRun
import Derived.Deep.RegionHeld3
import Derived.Lib.AppendZerosOnto

section
/- Walk: snapshot.New. -/
namespace Go.Proofs.YtgaffbdcpkbdhaaGreat
open Go.RowKit Go.Sort Go.ChangeMaps Go.WideShapes

theorem insertOwn {w : World} {ops : Array Oper} {rest : List Oper} {o : Oper} {a : Act} {Q : Exit → Act → World → Prop}
    (hg : o.guard = none) (m x v : Operand) (t : TypeId) (hop : o.op = Op.insert t m x v)
    (k e : TypeId) (K : Maps.Keyed Tryz.prog k) (ht : Tryz.prog.underlying t = some (.map k e)) (b n : Nat) (D : DataW Value)
    (hm : a.eval m = .map (some b)) (hown : w.ownsMap Tryz.prog k heldR b n D) (hn : n < maxLen) (key val : Value) (kl : Lit) (hx : a.eval x = key) (hv : a.eval v = val) (hkey : keyOf Tryz.prog k key = some kl)
    (hK : ∀ w', w'.ownsMap Tryz.prog k heldR b (n + 1) (D.put kl (.held val)) → w.grownBy w' (some b) → wpList Tryz.prog ops Q rest (a.put o.dst undef) w') :
    wpList Tryz.prog ops Q (o :: rest) a w := by
  refine wpList_plain hg fun K' hK' => ?_
  obtain ⟨w', hrun, r1, r2⟩ := hown.update K ht hn hkey (val := val) (d := .held val) (ps := []) rfl
  unfold Oper.wp
  simp [execOp, hop, hm, hx, hv, hrun, Result.andThen]
  exact hK' _ _ (hK w' r1 r2)

set_option maxHeartbeats 2000000 in
set_option maxRecDepth 100000 in
theorem snNew_neg (m : Value) (n : Int) (hn : n < 0) (w : World) : Calls Tryz.prog 8 #[.int .i64 n, .agg #[m]] w fun e w' => e = .returned (.tuple #[.agg #[.map none, .int .i64 0], .int .i64 3]) ∧ Ext w w' := by
  go_enter Tryz.func8, Tryz.ntmps8
  go_wp2
  exact bodyPost_ret (v := .tuple #[.agg #[.map none, .int .i64 0], .int .i64 3]) (by simp [results, Tryz.results8, go_sem]) rfl ⟨rfl, ((Ext.refl w).alloc _).alloc _⟩
set_option maxHeartbeats 2000000 in
set_option maxRecDepth 100000 in
theorem snNew_ok {P : Nat → Prop} {S : Sch} {m : Value} {F : Cont} (n : Int) (hn : 0 ≤ n) (hw : (Lit.int .i64 n).wf = true) (w : World) (hd : DbM P S w m F) (hPn : ∀ b, w.heap.size ≤ b → P b) :
    Calls Tryz.prog 8 #[.int .i64 n, .agg #[m]] w fun e w' => ∃ m', e = .returned (.tuple #[.agg #[m', .int .i64 n], .int .i64 0]) ∧ StM P S w' m' [⟨n, F, 0⟩] ∧ Below w.heap.size w w' := by
  obtain ⟨bd, rfl⟩ := hd.form
  have hmm := fun u => run_makeMap (P := Tryz.prog) 33 u
  obtain ⟨W0, hW0⟩ : ∃ W0, W0 = ((w.alloc (.cells #[.map (some bd)] 29)).alloc (.cells #[.map none, .int .i64 0] 35)).alloc (.map #[] 0) := ⟨_, rfl⟩
  have hr2 : Row W0 (w.heap.size + 1) 35 [.map none, .int .i64 0] := by
    have h := (Row.new (w.alloc (.cells #[.map (some bd)] 29)) 35 [.map none, .int .i64 0]).alloc (.map #[] 0)
    rw [World.size_alloc] at h
    rw [hW0]; exact h
  have hx0 : Ext w W0 := by rw [hW0]; exact (((Ext.refl w).alloc _).alloc _).alloc _
  have hr1 : Row W0 w.heap.size 29 [.map (some bd)] := by rw [hW0]; exact ((Row.new w 29 _).alloc _).alloc _
  have ho : W0.ownsMap Tryz.prog 3 heldR (w.heap.size + 1 + 1) 0 (.map []) := by
    have h := World.ownsMap_made ((w.alloc (.cells #[.map (some bd)] 29)).alloc (.cells #[.map none, .int .i64 0] 35)) Tryz.prog 3 heldR
    rw [World.size_alloc, World.size_alloc] at h
    rw [hW0]; exact h
  have HO := Lib.hid ho
  have HR2 := Lib.hid hr2
  have HX0 := Lib.hid hx0
  have HD := Lib.hid hd
  have HPN := Lib.hid hPn
  have HW := Lib.hid hw
  have k9 : W0.cell? ⟨w.heap.size, 0, none⟩ = some (.map (some bd)) := hr1.cell 0
  have z9 := hr1.lt
  clear ho hr2 hx0 hd hPn hw hr1
  go_enter Tryz.func8, Tryz.ntmps8
  go_wp2_with
    (rw [← hW0]
     refine insertOwn rfl _ _ _ 33 rfl 3 80 keyedI Tryz.underlying33 (w.heap.size + 1 + 1) 0 (.map []) rfl HO.out (by decide) _ _ (litI n) rfl rfl (keyI HW.out) ?_
     intro w2 hown2 hg2
     have q2 := HR2.out.grown hg2 (by intro e; injection e with e; omega)
     have k0 : w2.cell? ⟨w.heap.size + 1, 0, none⟩ = some (.map none) := q2.cell 0
     have k1 : w2.cell? ⟨w.heap.size + 1, 1, none⟩ = some (.int .i64 0) := q2.cell 1
     have k2 := q2.frozen 0
     have k3 := q2.frozen 1
     have HQ2 := Lib.hid q2
     have HO2 := Lib.hid hown2
     have HB2 : Hid (Below w.heap.size w w2) := HX0.out.below.grown hg2 HX0.out.size (fun k hk => by injection hk with hk; omega)
     clear q2 hown2 hg2 hmm)
  obtain ⟨W3, hW3⟩ : ∃ W3, W3 = (w2.setCell ⟨w.heap.size + 1, 0, none⟩ (.map (some (w.heap.size + 1 + 1)))).setCell ⟨w.heap.size + 1, 1, none⟩ (.int .i64 n) := ⟨_, rfl⟩
  rw [← hW3]
  have q := HQ2.out.set2 (.map (some (w.heap.size + 1 + 1))) (.int .i64 n)
  rw [← hW3] at q
  have c0 := q.cell 0
  have c1 := q.cell 1
  have hb3 : Below w.heap.size w W3 := by
    rw [hW3]
    exact (HB2.out.setCell (by show w.heap.size ≤ w.heap.size + 1; omega) _).setCell (by show w.heap.size ≤ w.heap.size + 1; omega) _
  have hs2 : StM (fun b => P b ∧ b ≠ w.heap.size + 1) S w2 (.map (some (w.heap.size + 1 + 1))) (putV [] ⟨n, F, 0⟩) :=
    StM.put (V := []) (v := ⟨n, F, 0⟩) rfl (fun k hk => by cases hk) (fun x hx => by cases hx) List.Pairwise.nil Maps.tidy_empty HW.out (HD.out.but (by omega)) (Stay.of HB2.out) ⟨HPN.out _ (by omega), by omega⟩ HO2.out
  have hs3 : StM P S W3 (.map (some (w.heap.size + 1 + 1))) [⟨n, F, 0⟩] := by rw [hW3]; exact hs2.boxed _ _
  exact bodyPost_ret (v := .tuple #[.agg #[.map (some (w.heap.size + 1 + 1)), .int .i64 n], .int .i64 0]) (by simp [results, Tryz.results8, go_sem, c0, c1]) rfl ⟨_, rfl, hs3, hb3⟩

end Go.Proofs.YtgaffbdcpkbdhaaGreat
end

section
/- Walk: catalog.Valid. -/
namespace Go.Proofs.YtgaffbdcpkbdhaaGreat
open Go.RowKit Go.Sort Go.ChangeMaps Go.WideShapes

def letterB (c : Nat) : Bool := (decide (97 ≤ c) && decide (c ≤ 122)) || (decide (65 ≤ c) && decide (c ≤ 90))
def goodB (i c : Nat) : Bool := letterB c || (decide (i ≠ 0) && (decide (c = 95) || (decide (48 ≤ c) && decide (c ≤ 57))))
def byteN (s : ByteArray) (i : Nat) : Nat := if h : i < s.size then (s[i]).toNat else 0
def nameF (s : ByteArray) : Bool := decide (1 ≤ s.size) && decide (s.size ≤ 16) && (List.range s.size).all fun i => goodB i (byteN s i)

theorem ne95 {c : Nat} (h : c ≠ 95) : ((c : Int) != 95) = true := by
  have : (c : Int) ≠ 95 := by omega
  simpa using this
theorem isEmpty_size (s : ByteArray) : s.toList.isEmpty = decide (s.size = 0) := by
  rw [ByteArray.toList_eq]
  cases s with | mk d => cases d with | mk l => cases l <;> rfl
set_option maxHeartbeats 2000000 in
set_option maxRecDepth 100000 in
theorem ctValid_any (s : ByteArray) (hs : s.size ≤ 9223372036854775807) (w : World) : Calls Tryz.prog 21 #[.string s] w fun e w' => e = .returned (.bool (nameF s)) ∧ w' = w := by
  by_cases h0 : s.size = 0
  · have he : s.toList.isEmpty = true := by rw [isEmpty_size, h0]; rfl
    have hn : nameF s = false := by unfold nameF; rw [decide_eq_false (by omega)]; rfl
    rw [hn]
    clear hn
    go_enter Tryz.func21, Tryz.ntmps21
    go_wp2
    go_ret
    exact ⟨rfl, rfl⟩
  have he : s.toList.isEmpty = false := by rw [isEmpty_size]; simpa using h0
  by_cases h16 : s.size ≤ 16
  rotate_left
  · have hd : decide ((16 : Int) < (s.size : Int)) = true := decide_eq_true (by omega)
    have hn : nameF s = false := by unfold nameF; rw [decide_eq_false h16, Bool.and_false]; rfl
    rw [hn]
    clear hn
    go_enter Tryz.func21, Tryz.ntmps21
    go_wp2
    go_ret
    exact ⟨rfl, rfl⟩
  have hd : decide ((16 : Int) < (s.size : Int)) = false := decide_eq_false (by omega)
  have HN : Hid (nameF s = (List.range s.size).all fun i => goodB i (byteN s i)) := by
    show _ = _
    unfold nameF
    rw [decide_eq_true h16, decide_eq_true (show 1 ≤ s.size by omega)]
    rfl
  go_enter Tryz.func21, Tryz.ntmps21
  go_wp2_with fail
  clear he hd
  go_loopw [15] (fun c wx => ∃ k : Nat, k ≤ s.size ∧ c = .int .i64 k ∧ (∀ i, i < k → goodB i (byteN s i) = true) ∧ wx = w) (fun c _ => s.size - (intOf c).toNat)
  case atStart => exact ⟨0, Nat.zero_le _, rfl, fun i hi => by omega, rfl⟩
  case round =>
    obtain ⟨k, hk, rfl, hall, rfl⟩ := hrel
    have HALL := Lib.hid hall
    clear hall
    by_cases hkl : k < s.size
    · have g1 : (0 : Int) ≤ (k : Int) := by omega
      have g2 : (k : Int) < (s.size : Int) := by omega
      have hw1 : IntKind.i64.wrap ((k : Int) + 1) = ((k + 1 : Nat) : Int) := by rw [IntWalk.i64_in _ (by omega)]; omega
      have HB : Hid (byteN s k = (s[k]).toNat) := by show _ = _; unfold byteN; rw [dif_pos hkl]
      go_upto_region 7 with (fail)
      have hcl : (s[k]).toNat < 256 := UInt8.toNat_lt _
      generalize (s[k]).toNat = c at HB hcl ⊢
      have HGOOD : Hid (∀ b : Bool, goodB k c = b → (b = true → ∀ i, i < k + 1 → goodB i (byteN s i) = true) ∧ (b = false → nameF s = false)) := fun b hb => ⟨fun e i hi => by
        rcases Nat.lt_or_ge i k with h | h
        · exact HALL.out i h
        · obtain rfl : i = k := by omega
          rw [HB.out, hb, e], fun e => by
        rw [HN.out, List.all_eq_false]
        exact ⟨k, List.mem_range.2 hkl, by rw [HB.out, hb, e]; decide⟩⟩
      have hcase : (97 ≤ c ∧ c ≤ 122) ∨ (65 ≤ c ∧ c ≤ 90) ∨ (122 < c) ∨ (c = 95) ∨ (91 ≤ c ∧ c ≤ 96 ∧ c ≠ 95) ∨ (58 ≤ c ∧ c ≤ 64) ∨ (48 ≤ c ∧ c ≤ 57) ∨ (c < 48) := by omega
      rcases hcase with hc | hc | hc | hc | hc | hc | hc | hc
      · have a0 : decide ((97 : Int) ≤ (c : Int)) = true := decide_eq_true (by omega)
        have a1 : decide ((c : Int) ≤ 122) = true := decide_eq_true (by omega)
        have a2 : decide ((65 : Int) ≤ (c : Int)) = true := decide_eq_true (by omega)
        have a3 : decide ((c : Int) ≤ 90) = false := decide_eq_false (by omega)
        have a4 : ((c : Int) != 95) = true := ne95 (by omega)
        have a5 : decide ((c : Int) < 48) = false := decide_eq_false (by omega)
        have a6 : decide ((57 : Int) < (c : Int)) = true := decide_eq_true (by omega)
        have HG := Lib.hid (HGOOD.out true (by unfold goodB letterB; simp; omega))
        clear hc hcl HGOOD
        go_wp2
        go_roundw
        case rel => exact ⟨k + 1, hkl, by go_num, HG.out.1 (by first | rfl | trivial), by first | rfl | trivial⟩
        case measure => simp [intOf]; omega
      · have a0 : decide ((97 : Int) ≤ (c : Int)) = false := decide_eq_false (by omega)
        have a1 : decide ((c : Int) ≤ 122) = true := decide_eq_true (by omega)
        have a2 : decide ((65 : Int) ≤ (c : Int)) = true := decide_eq_true (by omega)
        have a3 : decide ((c : Int) ≤ 90) = true := decide_eq_true (by omega)
        have a4 : ((c : Int) != 95) = true := ne95 (by omega)
        have a5 : decide ((c : Int) < 48) = false := decide_eq_false (by omega)
        have a6 : decide ((57 : Int) < (c : Int)) = true := decide_eq_true (by omega)
        have HG := Lib.hid (HGOOD.out true (by unfold goodB letterB; simp; omega))
        clear hc hcl HGOOD
        go_wp2
        go_roundw
        case rel => exact ⟨k + 1, hkl, by go_num, HG.out.1 (by first | rfl | trivial), by first | rfl | trivial⟩
        case measure => simp [intOf]; omega
      · by_cases hk0 : k = 0
        · have a0 : decide ((97 : Int) ≤ (c : Int)) = true := decide_eq_true (by omega)
          have a1 : decide ((c : Int) ≤ 122) = false := decide_eq_false (by omega)
          have a2 : decide ((65 : Int) ≤ (c : Int)) = true := decide_eq_true (by omega)
          have a3 : decide ((c : Int) ≤ 90) = false := decide_eq_false (by omega)
          have a4 : ((c : Int) != 95) = true := ne95 (by omega)
          have a5 : decide ((c : Int) < 48) = false := decide_eq_false (by omega)
          have a6 : decide ((57 : Int) < (c : Int)) = true := decide_eq_true (by omega)
          have ak : ((k : Int) == 0) = true := by rw [hk0]; rfl
          have HG := Lib.hid (HGOOD.out false (by unfold goodB letterB; simp; omega))
          clear hc hcl HGOOD
          go_wp2
          exact bodyPost_ret (v := .bool false) (by simp [results, Tryz.results21, go_sem]) rfl ⟨by rw [HG.out.2 (by first | rfl | trivial)], rfl⟩
        · have a0 : decide ((97 : Int) ≤ (c : Int)) = true := decide_eq_true (by omega)
          have a1 : decide ((c : Int) ≤ 122) = false := decide_eq_false (by omega)
          have a2 : decide ((65 : Int) ≤ (c : Int)) = true := decide_eq_true (by omega)
          have a3 : decide ((c : Int) ≤ 90) = false := decide_eq_false (by omega)
          have a4 : ((c : Int) != 95) = true := ne95 (by omega)
          have a5 : decide ((c : Int) < 48) = false := decide_eq_false (by omega)
          have a6 : decide ((57 : Int) < (c : Int)) = true := decide_eq_true (by omega)
          have ak : ((k : Int) == 0) = false := by
            have : (k : Int) ≠ 0 := by omega
            simpa using this
          have HG := Lib.hid (HGOOD.out false (by unfold goodB letterB; simp; omega))
          clear hc hcl HGOOD
          go_wp2
          exact bodyPost_ret (v := .bool false) (by simp [results, Tryz.results21, go_sem]) rfl ⟨by rw [HG.out.2 (by first | rfl | trivial)], rfl⟩
      · by_cases hk0 : k = 0
        · have a0 : decide ((97 : Int) ≤ (c : Int)) = false := decide_eq_false (by omega)
          have a1 : decide ((c : Int) ≤ 122) = true := decide_eq_true (by omega)
          have a2 : decide ((65 : Int) ≤ (c : Int)) = true := decide_eq_true (by omega)
          have a3 : decide ((c : Int) ≤ 90) = false := decide_eq_false (by omega)
          have a4 : ((c : Int) != 95) = false := by rw [hc]; rfl
          have a5 : decide ((c : Int) < 48) = false := decide_eq_false (by omega)
          have a6 : decide ((57 : Int) < (c : Int)) = true := decide_eq_true (by omega)
          have ak : ((k : Int) == 0) = true := by rw [hk0]; rfl
          have HG := Lib.hid (HGOOD.out false (by unfold goodB letterB; simp; omega))
          clear hc hcl HGOOD
          go_wp2
          exact bodyPost_ret (v := .bool false) (by simp [results, Tryz.results21, go_sem]) rfl ⟨by rw [HG.out.2 (by first | rfl | trivial)], rfl⟩
        · have a0 : decide ((97 : Int) ≤ (c : Int)) = false := decide_eq_false (by omega)
          have a1 : decide ((c : Int) ≤ 122) = true := decide_eq_true (by omega)
          have a2 : decide ((65 : Int) ≤ (c : Int)) = true := decide_eq_true (by omega)
          have a3 : decide ((c : Int) ≤ 90) = false := decide_eq_false (by omega)
          have a4 : ((c : Int) != 95) = false := by rw [hc]; rfl
          have a5 : decide ((c : Int) < 48) = false := decide_eq_false (by omega)
          have a6 : decide ((57 : Int) < (c : Int)) = true := decide_eq_true (by omega)
          have ak : ((k : Int) == 0) = false := by
            have : (k : Int) ≠ 0 := by omega
            simpa using this
          have HG := Lib.hid (HGOOD.out true (by unfold goodB letterB; simp; omega))
          clear hc hcl HGOOD
          go_wp2
          go_roundw
          case rel => exact ⟨k + 1, hkl, by go_num, HG.out.1 (by first | rfl | trivial), by first | rfl | trivial⟩
          case measure => simp [intOf]; omega
      · by_cases hk0 : k = 0
        · have a0 : decide ((97 : Int) ≤ (c : Int)) = false := decide_eq_false (by omega)
          have a1 : decide ((c : Int) ≤ 122) = true := decide_eq_true (by omega)
          have a2 : decide ((65 : Int) ≤ (c : Int)) = true := decide_eq_true (by omega)
          have a3 : decide ((c : Int) ≤ 90) = false := decide_eq_false (by omega)
          have a4 : ((c : Int) != 95) = true := ne95 (by omega)
          have a5 : decide ((c : Int) < 48) = false := decide_eq_false (by omega)
          have a6 : decide ((57 : Int) < (c : Int)) = true := decide_eq_true (by omega)
          have ak : ((k : Int) == 0) = true := by rw [hk0]; rfl
          have HG := Lib.hid (HGOOD.out false (by unfold goodB letterB; simp; omega))
          clear hc hcl HGOOD
          go_wp2
          exact bodyPost_ret (v := .bool false) (by simp [results, Tryz.results21, go_sem]) rfl ⟨by rw [HG.out.2 (by first | rfl | trivial)], rfl⟩
        · have a0 : decide ((97 : Int) ≤ (c : Int)) = false := decide_eq_false (by omega)
          have a1 : decide ((c : Int) ≤ 122) = true := decide_eq_true (by omega)
          have a2 : decide ((65 : Int) ≤ (c : Int)) = true := decide_eq_true (by omega)
          have a3 : decide ((c : Int) ≤ 90) = false := decide_eq_false (by omega)
          have a4 : ((c : Int) != 95) = true := ne95 (by omega)
          have a5 : decide ((c : Int) < 48) = false := decide_eq_false (by omega)
          have a6 : decide ((57 : Int) < (c : Int)) = true := decide_eq_true (by omega)
          have ak : ((k : Int) == 0) = false := by
            have : (k : Int) ≠ 0 := by omega
            simpa using this
          have HG := Lib.hid (HGOOD.out false (by unfold goodB letterB; simp; omega))
          clear hc hcl HGOOD
          go_wp2
          exact bodyPost_ret (v := .bool false) (by simp [results, Tryz.results21, go_sem]) rfl ⟨by rw [HG.out.2 (by first | rfl | trivial)], rfl⟩
      · by_cases hk0 : k = 0
        · have a0 : decide ((97 : Int) ≤ (c : Int)) = false := decide_eq_false (by omega)
          have a1 : decide ((c : Int) ≤ 122) = true := decide_eq_true (by omega)
          have a2 : decide ((65 : Int) ≤ (c : Int)) = false := decide_eq_false (by omega)
          have a3 : decide ((c : Int) ≤ 90) = true := decide_eq_true (by omega)
          have a4 : ((c : Int) != 95) = true := ne95 (by omega)
          have a5 : decide ((c : Int) < 48) = false := decide_eq_false (by omega)
          have a6 : decide ((57 : Int) < (c : Int)) = true := decide_eq_true (by omega)
          have ak : ((k : Int) == 0) = true := by rw [hk0]; rfl
          have HG := Lib.hid (HGOOD.out false (by unfold goodB letterB; simp; omega))
          clear hc hcl HGOOD
          go_wp2
          exact bodyPost_ret (v := .bool false) (by simp [results, Tryz.results21, go_sem]) rfl ⟨by rw [HG.out.2 (by first | rfl | trivial)], rfl⟩
        · have a0 : decide ((97 : Int) ≤ (c : Int)) = false := decide_eq_false (by omega)
          have a1 : decide ((c : Int) ≤ 122) = true := decide_eq_true (by omega)
          have a2 : decide ((65 : Int) ≤ (c : Int)) = false := decide_eq_false (by omega)
          have a3 : decide ((c : Int) ≤ 90) = true := decide_eq_true (by omega)
          have a4 : ((c : Int) != 95) = true := ne95 (by omega)
          have a5 : decide ((c : Int) < 48) = false := decide_eq_false (by omega)
          have a6 : decide ((57 : Int) < (c : Int)) = true := decide_eq_true (by omega)
          have ak : ((k : Int) == 0) = false := by
            have : (k : Int) ≠ 0 := by omega
            simpa using this
          have HG := Lib.hid (HGOOD.out false (by unfold goodB letterB; simp; omega))
          clear hc hcl HGOOD
          go_wp2
          exact bodyPost_ret (v := .bool false) (by simp [results, Tryz.results21, go_sem]) rfl ⟨by rw [HG.out.2 (by first | rfl | trivial)], rfl⟩
      · by_cases hk0 : k = 0
        · have a0 : decide ((97 : Int) ≤ (c : Int)) = false := decide_eq_false (by omega)
          have a1 : decide ((c : Int) ≤ 122) = true := decide_eq_true (by omega)
          have a2 : decide ((65 : Int) ≤ (c : Int)) = false := decide_eq_false (by omega)
          have a3 : decide ((c : Int) ≤ 90) = true := decide_eq_true (by omega)
          have a4 : ((c : Int) != 95) = true := ne95 (by omega)
          have a5 : decide ((c : Int) < 48) = false := decide_eq_false (by omega)
          have a6 : decide ((57 : Int) < (c : Int)) = false := decide_eq_false (by omega)
          have ak : ((k : Int) == 0) = true := by rw [hk0]; rfl
          have HG := Lib.hid (HGOOD.out false (by unfold goodB letterB; simp; omega))
          clear hc hcl HGOOD
          go_wp2
          exact bodyPost_ret (v := .bool false) (by simp [results, Tryz.results21, go_sem]) rfl ⟨by rw [HG.out.2 (by first | rfl | trivial)], rfl⟩
        · have a0 : decide ((97 : Int) ≤ (c : Int)) = false := decide_eq_false (by omega)
          have a1 : decide ((c : Int) ≤ 122) = true := decide_eq_true (by omega)
          have a2 : decide ((65 : Int) ≤ (c : Int)) = false := decide_eq_false (by omega)
          have a3 : decide ((c : Int) ≤ 90) = true := decide_eq_true (by omega)
          have a4 : ((c : Int) != 95) = true := ne95 (by omega)
          have a5 : decide ((c : Int) < 48) = false := decide_eq_false (by omega)
          have a6 : decide ((57 : Int) < (c : Int)) = false := decide_eq_false (by omega)
          have ak : ((k : Int) == 0) = false := by
            have : (k : Int) ≠ 0 := by omega
            simpa using this
          have HG := Lib.hid (HGOOD.out true (by unfold goodB letterB; simp; omega))
          clear hc hcl HGOOD
          go_wp2
          go_roundw
          case rel => exact ⟨k + 1, hkl, by go_num, HG.out.1 (by first | rfl | trivial), by first | rfl | trivial⟩
          case measure => simp [intOf]; omega
      · by_cases hk0 : k = 0
        · have a0 : decide ((97 : Int) ≤ (c : Int)) = false := decide_eq_false (by omega)
          have a1 : decide ((c : Int) ≤ 122) = true := decide_eq_true (by omega)
          have a2 : decide ((65 : Int) ≤ (c : Int)) = false := decide_eq_false (by omega)
          have a3 : decide ((c : Int) ≤ 90) = true := decide_eq_true (by omega)
          have a4 : ((c : Int) != 95) = true := ne95 (by omega)
          have a5 : decide ((c : Int) < 48) = true := decide_eq_true (by omega)
          have a6 : decide ((57 : Int) < (c : Int)) = false := decide_eq_false (by omega)
          have ak : ((k : Int) == 0) = true := by rw [hk0]; rfl
          have HG := Lib.hid (HGOOD.out false (by unfold goodB letterB; simp; omega))
          clear hc hcl HGOOD
          go_wp2
          exact bodyPost_ret (v := .bool false) (by simp [results, Tryz.results21, go_sem]) rfl ⟨by rw [HG.out.2 (by first | rfl | trivial)], rfl⟩
        · have a0 : decide ((97 : Int) ≤ (c : Int)) = false := decide_eq_false (by omega)
          have a1 : decide ((c : Int) ≤ 122) = true := decide_eq_true (by omega)
          have a2 : decide ((65 : Int) ≤ (c : Int)) = false := decide_eq_false (by omega)
          have a3 : decide ((c : Int) ≤ 90) = true := decide_eq_true (by omega)
          have a4 : ((c : Int) != 95) = true := ne95 (by omega)
          have a5 : decide ((c : Int) < 48) = true := decide_eq_true (by omega)
          have a6 : decide ((57 : Int) < (c : Int)) = false := decide_eq_false (by omega)
          have ak : ((k : Int) == 0) = false := by
            have : (k : Int) ≠ 0 := by omega
            simpa using this
          have HG := Lib.hid (HGOOD.out false (by unfold goodB letterB; simp; omega))
          clear hc hcl HGOOD
          go_wp2
          exact bodyPost_ret (v := .bool false) (by simp [results, Tryz.results21, go_sem]) rfl ⟨by rw [HG.out.2 (by first | rfl | trivial)], rfl⟩
    · obtain rfl : k = s.size := by omega
      have hn : Hid (nameF s = true) := by show _ = _; rw [HN.out, List.all_eq_true]; exact fun i hi => HALL.out i (List.mem_range.1 hi)
      go_wp2
      exact bodyPost_ret (v := .bool true) (by simp [results, Tryz.results21, go_sem]) rfl ⟨by rw [hn.out], rfl⟩

end Go.Proofs.YtgaffbdcpkbdhaaGreat
end

section
namespace Go.Proofs.YtgaffbdcpkbdhaaGreat
open Go.RowKit

theorem add_pos (b o i : Nat) : (Addr.add ⟨b, o, none⟩ i) = ⟨b, o + i, none⟩ := by
  unfold Addr.add
  split
  · next h => subst h; rfl
  · rfl

/-- The cells of a slice that reads as xs, by 'Addr.add'. -/
theorem Sl.cells {B : Nat} {w : World} {ad : Addr} {xs : List Value} (h : Sl B w (some ad) xs) : ∀ j u, xs[j]? = some u → w.cell? (ad.add j) = some u := by
  intro j u hu
  obtain ⟨b, o, e, _, hc⟩ := h (by rintro rfl; simp at hu)
  injection e with e
  subst e
  rw [add_pos]
  exact hc j u hu

theorem intInfo : (Tryz.prog.info? 3).map (fun i => (i.zero, i.size, i.bytes)) = some (some (.int .i64 0), 1, 8) := by kernel_rfl
theorem u32Info : (Tryz.prog.info? 133).map (fun i => (i.zero, i.size, i.bytes)) = some (some (.int .u32 0), 1, 4) := by kernel_rfl

/-- append of one number to a row of the call's own. -/
theorem app1Int {w : World} {ops : Array Oper} {rest : List Oper} {o : Oper} {a : Act} {Q : Exit → Act → World → Prop} (hgd : o.guard = none) (s x : Operand)
    (ho : o.op = .call { callee := .builtin .append, args := #[s, x], argTypes := #[53, 53] })
    (base : Nat) (v : Value) (n : Nat) (xs : List Value) (hs : a.eval s = v) (hown : w.ownsRow base 3 1 v n xs)
    (g : Nat) (z : Int) (hx : a.eval x = .slice (some ⟨g, 0, none⟩) 1 1) (hg : w.cell? ⟨g, 0, none⟩ = some (.int .i64 z))
    (hn : n ≤ 100000000) (hbase : base ≤ w.heap.size)
    (h : ∀ v' w', w'.ownsRow base 3 1 v' (n + 1) (xs ++ [.int .i64 z]) → w.grownBy w' v.ownBlock → wpList Tryz.prog ops Q rest (a.put o.dst v') w') : wpList Tryz.prog ops Q (o :: rest) a w := by
  obtain ⟨i0, hi0, hz0, hz1, hz2⟩ := info_parts intInfo
  refine wpList_append_own w hgd s x 53 ho base 3 i0 _ 1 8 Tryz.underlying53 hi0 hz0 hz1 hz2 rfl (by decide) v n xs hs hown ⟨g, 0, none⟩ 1 1 [.int .i64 z] hx rfl ?_ (by simp [Value.oneCell']) (by simp only [maxLen]; omega) (by omega) hbase fun v' w' h1 h2 _ => h v' w' h1 h2
  intro j u hu
  cases j with
  | zero => simp at hu; subst hu; exact hg
  | succ j => simp at hu

set_option maxHeartbeats 400000 in
theorem cloneInt_any (A : Option Addr) (c : Nat) (zs : List Int) (w : World) (hx : SlI .i64 w.heap.size w A zs) (hl : zs.length ≤ 1000000) :
    Calls Tryz.prog 23 #[.slice A zs.length c] w fun e w' => ∃ v, e = .returned v ∧ w'.ownsRow w.heap.size 3 1 v zs.length (zs.map (Value.int .i64)) ∧ Below w.heap.size w w' := by
  have hnil := fun w => Lib.run_eql_slice_nil (P := Tryz.prog) w 53 3 A zs.length c 0 0 Tryz.underlying53
  rcases A with _ | ad
  · have hz : zs = [] := by
      cases zs with
      | nil => rfl
      | cons z zs => obtain ⟨b, o, e, _⟩ := hx (by simp); cases e
    subst hz
    simp only [List.length_nil] at *
    clear hx
    go_enter Tryz.func23, Tryz.ntmps23
    go_wp2
    go_ret
    exact ⟨_, rfl, ⟨rfl, .inl ⟨rfl, rfl⟩⟩, Below.refl _ _⟩
  · obtain ⟨i0, hi0, hz0, hz1, hz2⟩ := info_parts intInfo
    have hcs := (hx.alloc (Nat.le_refl _) (.cells #[] 3)).cells
    have hown : (w.alloc (.cells #[] 3)).ownsRow w.heap.size 3 1 (.slice (some ⟨w.heap.size, 0, none⟩) 0 0) 0 [] := ⟨rfl, .inr ⟨w.heap.size, 0, #[], rfl, Nat.le_refl _, heap_alloc_new w _, Nat.le_refl _, by simp [maxLen], rfl, rfl⟩⟩
    have HC := Lib.hid hcs
    have HO := Lib.hid hown
    clear hcs hown hx
    go_enter Tryz.func23, Tryz.ntmps23
    go_wp2_with (at_builtin; refine wpList_append_own _ rfl (.tmp 5) (.tmp 6) 53 rfl w.heap.size 3 i0 _ 1 8 Tryz.underlying53 hi0 hz0 hz1 hz2 rfl (by decide) (.slice (some ⟨w.heap.size, 0, none⟩) 0 0) 0 [] rfl HO.out ad zs.length c (zs.map (Value.int .i64)) rfl (by simp) HC.out (by simp [Value.oneCell']) (by simp only [maxLen]; omega) (by omega) (by simp) ?_; intro v' w' hown' hg' hn'; have HO' := Lib.hid hown'; have HG := Lib.hid hg'; clear hown' hg' hn')
    go_ret
    have h1 := HO'.out
    simp only [Nat.zero_add, List.nil_append] at h1
    refine ⟨_, rfl, h1, ?_⟩
    refine ((Below.refl _ _).alloc (Nat.le_refl _) _).grown HG.out (by simp) ?_
    intro k hk
    simp [Value.ownBlock] at hk
    omega

end Go.Proofs.YtgaffbdcpkbdhaaGreat
end

section
/- Words and plain facts for catalog.New. -/
namespace Go.Proofs.YtgaffbdcpkbdhaaGreat
open Go.RowKit Go.Sort Go.ChangeMaps Go.WideShapes

theorem own_cut {w : World} {base : Nat} {e : TypeId} {size : Nat} {v : Value} {n : Nat} {xs : List Value} (h : w.ownsRow base e size v n xs) (_hs : 0 < size) : ∃ A C, v = .slice A n C ∧ n ≤ C ∧ C ≤ 9223372036854775807 ∧ (xs ≠ [] → ∃ b, A = some ⟨b, 0, none⟩ ∧ b < w.heap.size ∧ ∀ (j : Nat) u, xs[j]? = some u → w.cell? ⟨b, j, none⟩ = some u) := by
  rcases h.2 with ⟨h1, h0⟩ | ⟨g, cap, cur, h1, _, _, h5, hm, _⟩
  · subst h1 h0
    refine ⟨none, 0, rfl, Nat.le_refl _, by omega, fun hx => absurd (List.eq_nil_of_length_eq_zero (by rw [h.1, Nat.zero_mul])) hx⟩
  · subst h1
    refine ⟨some ⟨g, 0, none⟩, cap, rfl, h5, by unfold maxLen at hm; omega, fun _ => ⟨g, rfl, own_lt h g rfl, fun j u hu => ?_⟩⟩
    have := h.cells (g := g) rfl j u hu
    rwa [Addr.add_lit, Nat.zero_add] at this
def memB (s : ByteArray) (l : List ByteArray) : Bool := l.any fun x => decide (x = s)
theorem memB_iff {s : ByteArray} {l : List ByteArray} : memB s l = true ↔ s ∈ l := by
  unfold memB
  rw [List.any_eq_true]
  exact ⟨fun ⟨x, hx, e⟩ => (of_decide_eq_true e) ▸ hx, fun h => ⟨s, h, decide_eq_true rfl⟩⟩
theorem memB_no {s : ByteArray} {l : List ByteArray} (h : memB s l = false) : s ∉ l := fun e => by rw [memB_iff.2 e] at h; cases h
theorem own_slip {P : Nat → Prop} {w : World} {base : Nat} {A : Option Addr} {n C : Nat} {ks : List Int} (h : w.ownsRow base 3 1 (.slice A n C) n (ks.map (Value.int .i64))) (_hn : ks.length = n) (hP : ∀ b, base ≤ b → P b) : SlIP P w A ks := fun hne => by
  obtain ⟨A', C', e, -, -, hs⟩ := own_cut h (by decide)
  injection e with e1 e2 e3
  subst e1
  obtain ⟨b, e, hb, hc⟩ := hs (by intro h0; exact hne (List.map_eq_nil_iff.1 h0))
  exact ⟨b, 0, e, hb, hP b (own_base h (by rw [e]; rfl)), fun j u hu => by rw [Nat.zero_add]; exact hc j u hu⟩
theorem zeroEnt (u : World) : (zeroValue 73).run Tryz.prog u = .ok (.agg #[.slice none 0 0, .int .i64 0, .slice none 0 0]) u := Tryz.zeroValue73 u
/-- A list of schemas in memory. -/
def SchsM (B : Nat) (w : World) (A : Option Addr) (X : Sch) : Prop :=
  X ≠ [] → ∃ b o, A = some ⟨b, o, none⟩ ∧ b < B ∧ ∀ i (h : i < X.length), ∃ KA KC, w.cell? ⟨b, o + i * 2, none⟩ = some (.string X[i].1) ∧ w.cell? ⟨b, o + i * 2 + 1, none⟩ = some (.slice KA X[i].2.length KC) ∧ SlI .i64 B w KA X[i].2
def SchsOk (X : Sch) : Prop := ∀ p ∈ X, p.1.size ≤ 9223372036854775807 ∧ p.2.length ≤ 9223372036854775807
/-- The error of a schema behind others. -/
def errSch (seen : List ByteArray) (p : ByteArray × List Int) : Int :=
  if nameF p.1 = false then 7 else if memB p.1 seen then 8 else if 6 < p.2.length then 6 else if ∃ k ∈ p.2, k ≠ 1 ∧ k ≠ 2 then 2 else 0
def errSchs : List ByteArray → Sch → Int
  | _, [] => 0
  | seen, p :: t => if errSch seen p = 0 then errSchs (seen ++ [p.1]) t else errSch seen p
def errS (X : Sch) : Int := if 16 < X.length then 12 else errSchs [] X
theorem errSchs_at {X : Sch} {i : Nat} (h : i < X.length) : errSchs ((X.take i).map Prod.fst) (X.drop i) = if errSch ((X.take i).map Prod.fst) X[i] = 0 then errSchs ((X.take (i + 1)).map Prod.fst) (X.drop (i + 1)) else errSch ((X.take i).map Prod.fst) X[i] := by
  rw [List.drop_eq_getElem_cons h, List.take_succ_eq_append_getElem h, List.map_append]
  rfl
/-- What the map D of a database says of the schemas S. -/
def EntsM (P : Nat → Prop) (S : Sch) (w : World) (D : DataW Value) (F : Cont) : Prop :=
  Maps.size D = S.length ∧ (∀ k, Maps.has D k = true → ∃ p ∈ S, k = litS p.1) ∧ ∀ p ∈ S, ∃ val, (∀ z, D.atKey (litS p.1) z = .held val) ∧ EntM P w val p.2 (F p.1)
section
variable {P P' : Nat → Prop} {S : Sch} {w w' : World} {D : DataW Value} {F : Cont} {m : Value}
theorem EntsM.keep (h : EntsM P S w D F) (hk : Stay P w w') : EntsM P S w' D F := ⟨h.1, h.2.1, fun p hp => by obtain ⟨v, g1, g2⟩ := h.2.2 p hp; exact ⟨v, g1, g2.keep hk⟩⟩
theorem EntsM.weak (h : EntsM P S w D F) (hP : ∀ b, b < w.heap.size → P b → P' b) : EntsM P' S w D F := ⟨h.1, h.2.1, fun p hp => by obtain ⟨v, g1, g2⟩ := h.2.2 p hp; exact ⟨v, g1, g2.weak hP⟩⟩
theorem EntsM.nil : EntsM P [] w (.map []) F := by
  refine ⟨rfl, ?_, ?_⟩
  · intro k hk; cases hk
  · intro p hp; cases hp
theorem EntsM.has (h : EntsM P S w D F) (s : ByteArray) : Maps.has D (litS s) = memB s (S.map Prod.fst) := by
  cases hm : memB s (S.map Prod.fst)
  · cases hh : Maps.has D (litS s)
    · rfl
    · obtain ⟨p, hp, e⟩ := h.2.1 _ hh
      exact absurd (List.mem_map.2 ⟨p, hp, (litS_inj e).symm⟩) (memB_no hm)
  · obtain ⟨p, hp, rfl⟩ := List.mem_map.1 (memB_iff.1 hm)
    obtain ⟨v, g, _⟩ := h.2.2 p hp
    exact Maps.has_true_of_atKey g
theorem EntsM.db {b : Nat} (h : EntsM P S w D F) (hP : P b) (ho : w.ownsMap Tryz.prog 9 heldR b (Maps.size D) D) : DbM P S w (.map (some b)) F := ⟨b, D, rfl, hP, ho, h.1, h.2.1, h.2.2⟩
/-- A relation more. -/
theorem EntsM.add (h : EntsM P S w D F) (ht : Maps.Tidy D) {p : ByteArray × List Int} {val : Value} (hn : memB p.1 (S.map Prod.fst) = false) (hk : Stay P w w') (he : EntM P w' val p.2 (F p.1)) : EntsM P (S ++ [p]) w' (D.put (litS p.1) (.held val)) F := by
  have hh := h.has p.1
  rw [hn] at hh
  refine ⟨?_, fun k hkk => ?_, fun q hq => ?_⟩
  · rw [Maps.size_put ht, hh, h.1, List.length_append]
    rfl
  · by_cases e : k = litS p.1
    · exact ⟨p, by simp, e⟩
    · rw [Maps.has_put_other e] at hkk
      obtain ⟨q, hq, e2⟩ := h.2.1 k hkk
      exact ⟨q, List.mem_append.2 (.inl hq), e2⟩
  · rcases List.mem_append.1 hq with hq | hq
    · obtain ⟨v, g1, g2⟩ := h.2.2 q hq
      have hne : litS q.1 ≠ litS p.1 := fun e => memB_no hn (by rw [← litS_inj e]; exact List.mem_map.2 ⟨q, hq, rfl⟩)
      exact ⟨v, fun z => by rw [Maps.atKey_put_other hne]; exact g1 z, g2.keep hk⟩
    · simp at hq
      subst hq
      exact ⟨val, fun z => Maps.atKey_put_same ht.isMap (isKeyS _) _ z, he⟩
end

end Go.Proofs.YtgaffbdcpkbdhaaGreat
end

section
/- A move for regions that draw their order. -/
namespace Go.Proofs.YtgaffbdcpkbdhaaGreat
open Go.RowKit Go.Sort

/-- wpAnyH_take with the slot written out. -/
theorem takeOp {P : Program} {md : Region.Mode} {ops : Array Oper} {Q : Exit → Act → World → Prop} {S : World → Prop} {i : Nat} {oi : Oper} {v : Value} {fuel : Nat} {listed : Array Bool} {a : Act} {w : World} (d : Option Tmp) (hi : ops[i]? = some oi) (hd : oi.dst = d)
    (hs : Region.noSelect ops = true) (hf : Region.free md ops listed i = true) (hr : (Region.ready md ops listed).contains i = true)
    (hQ : ∀ c a w, Q (.panic c) (a.put d v) w → Q (.panic c) a w) (hy : YieldsIf P ops S oi v a) (hS : S w)
    (h : wpAnyH P md ops Q S fuel (listed.setIfInBounds i true) (a.put d v) w) : wpAnyH P md ops Q S (fuel + 1) listed a w := by
  subst hd
  exact wpAnyH_take hi hs hf hr hQ hy hS h

end Go.Proofs.YtgaffbdcpkbdhaaGreat
end

section
/- Drawn regions that end in one operation that waits for all others (a store): what the loads need is asked behind every operation but that last one. -/
namespace Go.Proofs.YtgaffbdcpkbdhaaGreat
open Go.RowKit Go.Sort

section
variable {P : Program} {ops : Array Oper} {Q : Exit → Act → World → Prop} {md : Region.Mode} {S : World → Prop} {z : Nat}

/-- Whatever order is picked from here on; S holds behind every operation but number z. -/
def wpAnyZ (P : Program) (md : Region.Mode) (ops : Array Oper) (Q : Exit → Act → World → Prop) (S : World → Prop) (z : Nat) : Nat → Array Bool → Act → World → Prop
  | 0, listed, a, w => Region.ready md ops listed = [] ∧ Q .normal a w
  | fuel + 1, listed, a, w =>
    (Region.ready md ops listed = [] → Q .normal a w) ∧
    ∀ i ∈ Region.ready md ops listed, wpOp P ops Q i (fun a' w' => (i ≠ z → S w') ∧ wpAnyZ P md ops Q S z fuel (listed.setIfInBounds i true) a' w') a w

theorem wpAny_of_Z : ∀ (fuel : Nat) (listed : Array Bool) (a : Act) (w : World), wpAnyZ P md ops Q S z fuel listed a w → wpAny P md ops Q fuel listed a w
  | 0, _, _, _, h => h
  | fuel + 1, _, _, _, h => ⟨h.1, fun i hi => wpOp_mono (fun a' w' h' => wpAny_of_Z fuel _ a' w' h'.2) (h.2 i hi)⟩

/-- Those that an operation waits for. -/
def preds (md : Region.Mode) (ops : Array Oper) (k : Nat) : List Nat :=
  match ops[k]? with
  | some o => (o.after.toList.filter (Region.binds md)).map (·.on)
  | none => []
/-- Those that it waits for through others. -/
def reach (md : Region.Mode) (ops : Array Oper) (z : Nat) : Nat → List Nat
  | 0 => preds md ops z
  | n + 1 => reach md ops z n ++ (reach md ops z n).flatMap (preds md ops)
/-- Number z waits for all others. -/
def lastB (md : Region.Mode) (ops : Array Oper) (z : Nat) : Bool := (List.range ops.size).all fun i => i == z || (reach md ops z 1).contains i
/-- What has come up had all that it waits for before it. -/
def Cl (md : Region.Mode) (ops : Array Oper) (listed : Array Bool) : Prop := ∀ k, listed.getD k false = true → ∀ j ∈ preds md ops k, listed.getD j false = true
def clB (md : Region.Mode) (ops : Array Oper) (listed : Array Bool) : Bool := (List.range listed.size).all fun k => !(listed.getD k false) || (preds md ops k).all fun j => listed.getD j false
theorem Cl.of {listed : Array Bool} (h : clB md ops listed = true) : Cl md ops listed := fun k hk j hj => by
  unfold clB at h
  simp only [List.all_eq_true, List.mem_range] at h
  have hsz : k < listed.size := by
    rcases Nat.lt_or_ge k listed.size with h' | h'
    · exact h'
    · simp [Array.getElem?_eq_none h'] at hk
  have h1 := h k hsz
  rw [hk] at h1
  simp only [Bool.not_true, Bool.false_or, List.all_eq_true] at h1
  exact h1 j hj
theorem ready_preds {listed : Array Bool} {j : Nat} (hr : j ∈ Region.ready md ops listed) : ∀ i ∈ preds md ops j, listed.getD i false = true := fun i hi => by
  obtain ⟨_, o, ho, hall⟩ := mem_ready.1 hr
  unfold preds at hi
  rw [ho] at hi
  simp only [List.mem_map, List.mem_filter, Array.mem_toList_iff] at hi
  obtain ⟨e, ⟨he, hb⟩, rfl⟩ := hi
  exact hall e he hb
theorem Cl.step {listed : Array Bool} {j : Nat} (h : Cl md ops listed) (hr : j ∈ Region.ready md ops listed) : Cl md ops (listed.setIfInBounds j true) := fun k hk i hi => by
  by_cases e : j = k
  · subst e; exact getD_set_true (ready_preds hr i hi)
  · rw [getD_set_ne false e] at hk
    exact getD_set_true (h k hk i hi)
theorem reach_listed {listed : Array Bool} (hc : Cl md ops listed) (hr : z ∈ Region.ready md ops listed) : ∀ n, ∀ i ∈ reach md ops z n, listed.getD i false = true
  | 0, i, hi => ready_preds hr i hi
  | n + 1, i, hi => by
    unfold reach at hi
    rw [List.mem_append, List.mem_flatMap] at hi
    rcases hi with hi | ⟨k, hk, hi⟩
    · exact reach_listed hc hr n i hi
    · exact hc k (reach_listed hc hr n k hk) i hi
theorem last_alone (hz : lastB md ops z = true) {listed : Array Bool} (hc : Cl md ops listed) {i : Nat} (hr : z ∈ Region.ready md ops listed) (hi : i ∈ Region.ready md ops listed) : i = z := by
  obtain ⟨hun, oi, hoi, _⟩ := mem_ready.1 hi
  unfold lastB at hz
  simp only [List.all_eq_true, List.mem_range] at hz
  have hsz : i < ops.size := by
    rcases Nat.lt_or_ge i ops.size with h | h
    · exact h
    · rw [Array.getElem?_eq_none h] at hoi; cases hoi
  have h1 := hz i hsz
  rw [Bool.or_eq_true] at h1
  rcases h1 with h1 | h1
  · simpa using h1
  · have h3 := reach_listed hc hr 1 i (by simpa using h1)
    rcases Nat.lt_or_ge i listed.size with h | h
    · simp [h] at hun h3
      rw [hun] at h3
      cases h3
    · simp [Array.getElem?_eq_none h] at h3

/-- An operation that may come up and yields its value in every world that meets S may be taken first. -/
theorem wpAnyZ_first (hz : lastB md ops z = true) {i : Nat} {oi : Oper} {v : Value} (hiz : i ≠ z) (hi : ops[i]? = some oi) (hsel : ∀ (j : Nat) (o : Oper) cs b, ops[j]? = some o → o.op ≠ .select cs b)
    (hQ : ∀ c a w, Q (.panic c) (a.put oi.dst v) w → Q (.panic c) a w) :
    ∀ (fuel : Nat) (listed : Array Bool) (a : Act) (w : World), Cl md ops listed →
      (∀ j oj, ops[j]? = some oj → j ≠ i → listed.getD j true = false → (∀ e ∈ oj.after, Region.binds md e = true → e.on ≠ i) → oi.apart ops oj = true) →
      i ∈ Region.ready md ops listed → YieldsIf P ops S oi v a → S w →
      wpAnyZ P md ops Q S z fuel (listed.setIfInBounds i true) (a.put oi.dst v) w → wpAnyZ P md ops Q S z (fuel + 1) listed a w
  | 0, listed, a, w, _, _, hr, hy, hS, H => by
    refine ⟨fun h => (by rw [h] at hr; cases hr), fun j hj => ?_⟩
    by_cases hji : j = i
    · subst hji; exact hy.wpOp hi hS ⟨fun _ => hS, H⟩
    · have := ready_mono hj hji
      rw [H.1] at this
      cases this
  | fuel + 1, listed, a, w, hc, hfree, hr, hy, hS, H => by
    refine ⟨fun h => (by rw [h] at hr; cases hr), fun j hj => ?_⟩
    by_cases hji : j = i
    · subst hji; exact hy.wpOp hi hS ⟨fun _ => hS, H⟩
    · have hjz : j ≠ z := fun e => by subst e; exact hiz (last_alone hz hc hj hr)
      have h1 := H.2 j (ready_mono hj hji)
      obtain ⟨hjun, oj, hoj, hall⟩ := mem_ready.1 hj
      have hnot : ∀ e ∈ oj.after, Region.binds md e = true → e.on ≠ i := fun e he hb heq => by
        have h2 := hall e he hb
        have h0 := (mem_ready.1 hr).1
        rw [heq] at h2
        rcases Nat.lt_or_ge i listed.size with h' | h'
        · simp [h'] at h0 h2; rw [h0] at h2; cases h2
        · simp [Array.getElem?_eq_none h'] at h2
      have h2 := wpOp_putIf hoj (hfree j oj hoj hji hjun hnot) (fun cs b => hsel i oi cs b hi) (fun cs b => hsel j oj cs b hoj) hQ hy h1
      refine wpOp_mono (fun a' w' h3 => ⟨h3.2.1, wpAnyZ_first hz hiz hi hsel hQ fuel (listed.setIfInBounds j true) a' w' (hc.step hj) (fun k ok hk hki hun hno => ?_) (ready_mono hr (Ne.symm hji)) h3.1 (h3.2.1 hjz) ?_⟩) h2
      · refine hfree k ok hk hki ?_ hno
        by_cases hjk : j = k
        · subst hjk; exact hjun
        · rw [getD_set_ne true hjk] at hun; exact hun
      · rw [Array.setIfInBounds_comm _ _ hji]
        exact h3.2.2

/-- Take number i first. -/
theorem takeZ {i : Nat} {oi : Oper} {v : Value} {fuel : Nat} {listed : Array Bool} {a : Act} {w : World} (d : Option Tmp) (hi : ops[i]? = some oi) (hd : oi.dst = d)
    (hz : lastB md ops z = true) (hiz : i ≠ z) (hcl : clB md ops listed = true) (hs : Region.noSelect ops = true) (hf : Region.free md ops listed i = true) (hr : (Region.ready md ops listed).contains i = true)
    (hQ : ∀ c a w, Q (.panic c) (a.put d v) w → Q (.panic c) a w) (hy : YieldsIf P ops S oi v a) (hS : S w)
    (h : wpAnyZ P md ops Q S z fuel (listed.setIfInBounds i true) (a.put d v) w) : wpAnyZ P md ops Q S z (fuel + 1) listed a w := by
  subst hd
  exact wpAnyZ_first hz hiz hi (Region.noSelect_spec hs) hQ fuel listed a w (Cl.of hcl) (Region.free_spec hi hf) (by simpa using hr) hy hS h
/-- Number i alone may come up. -/
theorem oneZ {i : Nat} {o : Oper} {fuel : Nat} {listed : Array Bool} {a : Act} {w : World} (hr : Region.ready md ops listed = [i]) (ho : ops[i]? = some o) (hiz : i ≠ z)
    (h : ∀ K' : Act → World → Prop, Shut (∀ a w, S w → (S w → wpAnyZ P md ops Q S z fuel (listed.setIfInBounds i true) a w) → K' a w) → if Region.wanted o (yielded ops a.tmps) = true then Oper.wp P o a w K' Q else K' (a.put o.dst undef) w) :
    wpAnyZ P md ops Q S z (fuel + 1) listed a w := by
  refine ⟨(fun h0 => by rw [hr] at h0; cases h0), fun j hj => ?_⟩
  rw [hr] at hj
  obtain rfl : j = i := by simpa using hj
  exact wpOp_step ho (fun K' hK => h K' (fun a w hS hW => hK a w ⟨fun _ => hS, hW hS⟩))
/-- The last one: nothing is asked behind it but what follows the region. -/
theorem lastZ {o : Oper} {fuel : Nat} {listed : Array Bool} {a : Act} {w : World} (hr : Region.ready md ops listed = [z]) (ho : ops[z]? = some o) (hd : Region.ready md ops (listed.setIfInBounds z true) = [])
    (h : ∀ K' : Act → World → Prop, Shut (∀ a w, Q .normal a w → K' a w) → if Region.wanted o (yielded ops a.tmps) = true then Oper.wp P o a w K' Q else K' (a.put o.dst undef) w) :
    wpAnyZ P md ops Q S z (fuel + 1) listed a w := by
  refine ⟨(fun h0 => by rw [hr] at h0; cases h0), fun j hj => ?_⟩
  rw [hr] at hj
  obtain rfl : j = z := by simpa using hj
  refine wpOp_step ho (fun K' hK => h K' (fun a w hQ => hK a w ⟨fun h => absurd rfl h, ?_⟩))
  cases fuel with
  | zero => exact ⟨hd, hQ⟩
  | succ fuel => exact ⟨fun _ => hQ, by rw [hd]; simp⟩
/-- The beginning. -/
theorem regionZ {id : Nat} {a : Act} {w : World} (z : Nat) (hm : P.follows .mixedOrders = true) (hS : S w.drew)
    (h : S w.drew → wpAnyZ P .any ops Q S z ops.size (Array.replicate ops.size false) a w.drew) : (Code.region id ops true).wp P Q a w :=
  wp_region_any hm (wpAny_of_Z _ _ _ _ (h hS))
end

end Go.Proofs.YtgaffbdcpkbdhaaGreat
end

section
/- Walk: catalog.New. -/
namespace Go.Proofs.YtgaffbdcpkbdhaaGreat
open Go.RowKit Go.Sort Go.ChangeMaps Go.WideShapes

/-- 'm[k] = v' at a step of a drawn region. -/
theorem stepUpd {w : World} {ops : Array Oper} {o : Oper} {a : Act} {K : Act → World → Prop} {Q : Exit → Act → World → Prop} {E : Prop} (hgd : o.guard = none) (m x v : Operand) (t : TypeId) (hop : o.op = Op.mapUpdate t m x v)
    (k e : TypeId) (KK : Maps.Keyed Tryz.prog k) (ht : Tryz.prog.underlying t = some (.map k e)) (b n : Nat) (D : DataW Value)
    (hm : a.eval m = .map (some b)) (hown : w.ownsMap Tryz.prog k heldR b n D) (hn : n < maxLen) (key val : Value) (kl : Lit) (hx : a.eval x = key) (hv : a.eval v = val) (hkey : keyOf Tryz.prog k key = some kl)
    (h : ∀ w', w'.ownsMap Tryz.prog k heldR b (n + 1) (D.put kl (.held val)) → w.grownBy w' (some b) → K (a.put o.dst undef) w') :
    if Region.wanted o (yielded ops a.tmps) = true then Oper.wp Tryz.prog o a w K Q else E := by
  obtain ⟨w', hrun, r1, r2⟩ := hown.update KK ht hn hkey (val := val) (d := .held val) (ps := []) rfl
  have hw : Region.wanted o (yielded ops a.tmps) = true := by unfold Region.wanted; rw [hgd]
  rw [if_pos hw]
  unfold Oper.wp
  simp [execOp, hop, hm, hx, hv, hrun, Result.andThen]
  exact h w' r1 r2

theorem Stay.grown {P : Nat → Prop} {w w' : World} {g : Nat} (hg : w.grownBy w' (some g)) (hP : ¬ P g) : Stay P w w' := ⟨hg.size, fun b hb hp => hg.block b hb (fun e => hP (by injection e with e; rw [← e]; exact hp))⟩
theorem RowsOk.nil (n : Nat) : RowsOk n [] := ⟨List.Pairwise.nil, (by intro x hx; cases hx), by simp⟩
def NewPostC (P : Nat → Prop) (X : Sch) (w : World) (e : Ending) (w' : World) : Prop :=
  (errS X = 0 → ∃ m, e = .returned (.tuple #[.agg #[m], .int .i64 0]) ∧ DbM P X w' m (fun _ => [])) ∧ (errS X ≠ 0 → e = .returned (.tuple #[.agg #[.map none], .int .i64 (errS X)])) ∧ Below w.heap.size w w'
theorem NewPostC.err {P : Nat → Prop} {X : Sch} {w w' : World} {k : Int} (he : errS X = k) (hk : k ≠ 0) (hb : Below w.heap.size w w') : NewPostC P X w (.returned (.tuple #[.agg #[.map none], .int .i64 k])) w' :=
  ⟨fun h => absurd (he.symm.trans h) hk, fun _ => by rw [he], hb⟩

set_option maxHeartbeats 8000000 in
set_option maxRecDepth 100000 in
theorem ctNew_any (P : Nat → Prop) (A : Option Addr) (C : Nat) (X : Sch) (w : World) (hPn : ∀ b, w.heap.size ≤ b → P b) (hX : SchsM w.heap.size w A X) (hok : SchsOk X) (hl : X.length ≤ 9223372036854775807) :
    Calls Tryz.prog 7 #[.slice A X.length C] w (NewPostC P X w) := by
  have HX := Lib.hid hX
  have HOK := Lib.hid hok
  have HPN := Lib.hid hPn
  clear hX hok hPn
  by_cases h16 : 16 < X.length
  · have hd : decide ((16 : Int) < (X.length : Int)) = true := decide_eq_true (by omega)
    have HE : Hid (errS X = 12) := by show _ = _; unfold errS; rw [if_pos h16]
    go_enter Tryz.func7, Tryz.ntmps7
    go_wp2
    exact bodyPost_ret (v := .tuple #[.agg #[.map none], .int .i64 12]) (by simp [results, Tryz.results7, go_sem]) rfl (NewPostC.err HE.out (by decide) ((Ext.refl w).alloc _).below)
  have hd : decide ((16 : Int) < (X.length : Int)) = false := decide_eq_false (by omega)
  have HE : Hid (errS X = errSchs [] X) := by show _ = _; unfold errS; rw [if_neg h16]
  have hmm : ∀ u n, (Instr.makeMap 27 (some (.int .i64 n))).run Tryz.prog u = .ok (.map (some u.heap.size)) (u.alloc (.map #[] 0)) := fun u n => by
    simp [Instr.makeMap, run_underlying Tryz.underlying27, go_sem, asInt]
  obtain ⟨W0, hW0⟩ : ∃ W0, W0 = (w.alloc (.cells #[.map none] 29)).alloc (.map #[] 0) := ⟨_, rfl⟩
  have hr0 : Row W0 w.heap.size 29 [.map none] := by rw [hW0]; exact (Row.new w 29 _).alloc _
  have hx0 : Ext w W0 := by rw [hW0]; exact ((Ext.refl w).alloc _).alloc _
  have ho0 : W0.ownsMap Tryz.prog 9 heldR (w.heap.size + 1) 0 (.map []) := by
    have h := World.ownsMap_made (w.alloc (.cells #[.map none] 29)) Tryz.prog 9 heldR
    rw [World.size_alloc] at h
    rw [hW0]; exact h
  have hz0 : w.heap.size + 1 + 1 ≤ W0.heap.size := by rw [hW0]; simp
  have HST : Hid (W0.ownsMap Tryz.prog 9 heldR (w.heap.size + 1) 0 (.map []) ∧ Row W0 w.heap.size 29 [.map none] ∧ Below w.heap.size w W0) := ⟨ho0, hr0, hx0.below⟩
  have HZ0 := Lib.hid hz0
  clear hr0 hx0 ho0 hz0
  go_enter Tryz.func7, Tryz.ntmps7
  go_wp2_with fail
  rw [← hW0]
  clear hW0
  go_loopw [21] (fun c wx => ∃ (i : Nat) (D : DataW Value), i ≤ X.length ∧ c = .int .i64 i ∧ errSchs ((X.take i).map Prod.fst) (X.drop i) = errSchs [] X ∧ wx.ownsMap Tryz.prog 9 heldR (w.heap.size + 1) (Maps.size D) D ∧ EntsM (fun b => (P b ∧ b ≠ w.heap.size) ∧ b ≠ w.heap.size + 1) (X.take i) wx D (fun _ => []) ∧ Row wx w.heap.size 29 [.map none] ∧ Below w.heap.size w wx ∧ w.heap.size + 1 + 1 ≤ wx.heap.size) (fun c _ => X.length - (intOf c).toNat)
  case atStart => exact ⟨0, .map [], Nat.zero_le _, rfl, rfl, HST.out.1, EntsM.nil, HST.out.2.1, HST.out.2.2, HZ0.out⟩
  case round =>
    obtain ⟨i, D, hi, rfl, herr, hown, hent, hrow, hbw, hzz⟩ := hrel
    have HERR := Lib.hid herr
    have HO := Lib.hid hown
    have HENT := Lib.hid hent
    have HROW := Lib.hid hrow
    have HB := Lib.hid hbw
    have hzr := hrow.lt
    have hzb := hbw.size
    have hrz := hrow.frozen 0
    have hrc : wr.cell? ⟨w.heap.size, 0, none⟩ = some (.map none) := hrow.cell 0
    clear herr hown hent hrow hbw hd hmm HST HZ0
    by_cases hil : i < X.length
    rotate_left
    · obtain rfl : i = X.length := by omega
      have HF : Hid (errS X = 0) := by
        have h := HERR.out
        rw [List.drop_length] at h
        show _ = _
        rw [HE.out, ← h]
        rfl
      have HEN2 := HENT.out
      rw [List.take_length] at HEN2
      have HEN3 := Lib.hid HEN2
      clear HEN2
      go_wp2
      obtain ⟨W3, hW3⟩ : ∃ W3, W3 = wr.setCell ⟨w.heap.size, 0, none⟩ (.map (some (w.heap.size + 1))) := ⟨_, rfl⟩
      rw [← hW3]
      have q := HROW.out.set 0 (.map (some (w.heap.size + 1)))
      rw [← hW3] at q
      have c0 := q.cell 0
      have hb3 : Below w.heap.size w W3 := by rw [hW3]; exact HB.out.setCell (Nat.le_refl _) _
      have hst : Stay (fun b => P b ∧ b ≠ w.heap.size) wr W3 := by rw [hW3]; exact Stay.set (fun e => e.2 rfl) 0 _
      have hdb : DbM P X W3 (.map (some (w.heap.size + 1))) (fun _ => []) := by
        have h1 := (HEN3.out.weak (P' := fun b => P b ∧ b ≠ w.heap.size) fun b _ hb => hb.1).db (b := w.heap.size + 1) ⟨HPN.out _ (by omega), by omega⟩ HO.out
        exact (h1.keep hst).weak fun b _ hb => hb.1
      exact bodyPost_ret (v := .tuple #[.agg #[.map (some (w.heap.size + 1))], .int .i64 0]) (by simp [results, Tryz.results7, go_sem, c0]) rfl ⟨fun _ => ⟨_, rfl, hdb⟩, fun h => absurd HF.out h, hb3⟩
    obtain ⟨ab, ao, rfl, hab, hac⟩ := HX.out (by intro h0; rw [h0] at hil; simp at hil)
    obtain ⟨KA, KC, c0, c1, sk⟩ := hac i hil
    have c0 := (HB.out.cell (p := ⟨ab, ao + i * 2, none⟩) hab).trans c0
    have c1 := (HB.out.cell (p := ⟨ab, ao + i * 2 + 1, none⟩) hab).trans c1
    have hab2 := Nat.lt_of_lt_of_le hab hzb
    have sk := (sk.below HB.out (Nat.le_refl _)).more hzb
    have HOK1 := Lib.hid (HOK.out _ (List.getElem_mem hil))
    have HAT := Lib.hid (errSchs_at hil)
    have HTK : Hid (X.take (i + 1) = X.take i ++ [X[i]]) := List.take_succ_eq_append_getElem hil
    have g1 : (0 : Int) ≤ (i : Int) := by omega
    have g2 : (i : Int) < (X.length : Int) := by omega
    have hw1 : IntKind.i64.wrap ((i : Int) + 1) = ((i + 1 : Nat) : Int) := by rw [IntWalk.i64_in _ (by omega)]; omega
    have HSK := Lib.hid sk
    clear hac sk
    generalize X[i] = p at *
    obtain ⟨nm, ks⟩ := p
    have HKL : Hid (ks.length ≤ 9223372036854775807) := HOK1.out.2
    have HNL : Hid (nm.size ≤ 9223372036854775807) := HOK1.out.1
    have HBAD : Hid (∀ k, errSch ((X.take i).map Prod.fst) (nm, ks) = k → k ≠ 0 → errS X = k) := fun k hk h0 => by
      rw [HE.out, ← HERR.out, HAT.out, if_neg (by rw [hk]; exact h0), hk]
    have HGOOD : Hid (errSch ((X.take i).map Prod.fst) (nm, ks) = 0 → errSchs ((X.take (i + 1)).map Prod.fst) (X.drop (i + 1)) = errSchs [] X) := fun h0 => by
      rw [← HERR.out, HAT.out, if_pos h0]
    clear HOK1 HAT
    obtain ⟨wo, hwo⟩ : ∃ wo, wo = wr := ⟨_, rfl⟩
    subst hwo
    obtain ⟨W1, hW1⟩ : ∃ W1, W1 = wo.alloc (.cells #[.string nm, .slice KA ks.length KC] 55) := ⟨_, rfl⟩
    have hx1 : Ext wo W1 := by rw [hW1]; exact (Ext.refl wo).alloc _
    have hrs : Row W1 wo.heap.size 55 [.string nm, .slice KA ks.length KC] := by rw [hW1]; exact Row.new wo 55 _
    have HRS := Lib.hid hrs
    have HX1 := Lib.hid hx1
    have hm0 := map_up HO.out hx1.below
    go_upto_region 8 with (fail)
    rw [← hW1]
    clear hW1 c0 c1 hrs
    have HB1 := Lib.hid (Below.then HB.out HX1.out.below hzb)
    have HR1 := Lib.hid (HROW.out.up HX1.out.below)
    have HHAS := Lib.hid (HENT.out.has nm)
    cases hm : memB nm ((X.take i).map Prod.fst)
    rotate_left
    · obtain ⟨p, hp, hpe⟩ : ∃ p ∈ X.take i, p.1 = nm := by
        obtain ⟨p, hp, e⟩ := List.mem_map.1 (memB_iff.1 hm)
        exact ⟨p, hp, e⟩
      obtain ⟨val, hv1, hv2⟩ := HENT.out.2.2 p hp
      obtain ⟨KB, KD, QA, QC, rfl, -, -, -, -, -, -⟩ := hv2
      rw [hpe] at hv1
      have hlk := (look_yes keyedS Tryz.underlying27 zeroEnt hm0 (keyS HNL.out) hv1).1
      obtain ⟨b1, hb1⟩ : ∃ b1, b1 = p.2.length := ⟨_, rfl⟩
      rw [← hb1] at hlk
      obtain ⟨W2, hW2⟩ : ∃ W2, W2 = W1.alloc (.cells #[.slice KB b1 KD, .int .i64 b1, .slice QA 0 QC] 73) := ⟨_, rfl⟩
      have hx2 : Ext W1 W2 := by rw [hW2]; exact (Ext.refl W1).alloc _
      have HRS2 := Lib.hid (HRS.out.up hx2.below)
      have f0 := HRS.out.cell 0
      have f1 := HRS2.out.cell 0
      simp only [List.getElem?_cons_zero] at f0 f1
      have fz := HRS.out.lt
      have fz2 := HRS2.out.lt
      have HB2 := Lib.hid (Below.then HB1.out hx2.below HB1.out.size)
      have HR2 := Lib.hid (HR1.out.up hx2.below)
      have HM8 := Lib.hid hm
      clear hx2 hv1 hpe hb1 hm
      go_wp2_with fail
      rw [← hW2]
      clear hW2 hlk f0
      refine (ctValid_any nm HNL.out W2).mono ?_
      rintro e w2 ⟨rfl, rfl⟩
      have r2 := HR2.out
      have e0 : w2.cell? ⟨w.heap.size, 0, none⟩ = some (.map none) := r2.cell 0
      have e1 := r2.frozen 0
      have e2 := r2.lt
      cases hn : nameF nm
      · have HN7 := Lib.hid hn
        clear hn r2
        go_wp2_with fail
        obtain ⟨W9, hW9⟩ : ∃ W9, W9 = w2.setCell ⟨w.heap.size, 0, none⟩ (.map none) := ⟨_, rfl⟩
        rw [← hW9]
        have q := HR2.out.set 0 (.map none)
        rw [← hW9] at q
        have c9 := q.cell 0
        have hb9 : Below w.heap.size w W9 := by rw [hW9]; exact HB2.out.setCell (Nat.le_refl _) _
        exact bodyPost_ret (v := .tuple #[.agg #[.map none], .int .i64 7]) (by simp [results, Tryz.results7, go_sem, c9]) rfl (NewPostC.err (HBAD.out 7 (by unfold errSch; rw [if_pos HN7.out]) (by decide)) (by decide) hb9)
      · have HN7 := Lib.hid hn
        clear hn r2
        go_wp2_with fail
        obtain ⟨W9, hW9⟩ : ∃ W9, W9 = w2.setCell ⟨w.heap.size, 0, none⟩ (.map none) := ⟨_, rfl⟩
        rw [← hW9]
        have q := HR2.out.set 0 (.map none)
        rw [← hW9] at q
        have c9 := q.cell 0
        have hb9 : Below w.heap.size w W9 := by rw [hW9]; exact HB2.out.setCell (Nat.le_refl _) _
        exact bodyPost_ret (v := .tuple #[.agg #[.map none], .int .i64 8]) (by simp [results, Tryz.results7, go_sem, c9]) rfl (NewPostC.err (HBAD.out 8 (by unfold errSch; rw [if_neg (by rw [HN7.out]; decide), if_pos HM8.out]) (by decide)) (by decide) hb9)
    have hlk := (look_no keyedS Tryz.underlying27 zeroEnt hm0 (keyS HNL.out) (by rw [HHAS.out]; exact hm)).1
    obtain ⟨W2, hW2⟩ : ∃ W2, W2 = W1.alloc (.cells #[.slice none 0 0, .int .i64 0, .slice none 0 0] 73) := ⟨_, rfl⟩
    have hx2 : Ext W1 W2 := by rw [hW2]; exact (Ext.refl W1).alloc _
    have HRS2 := Lib.hid (HRS.out.up hx2.below)
    have f0 := HRS.out.cell 0
    have f1 := HRS2.out.cell 0
    have f2 : W2.cell? ⟨wo.heap.size, 1, none⟩ = some (.slice KA ks.length KC) := HRS2.out.cell 1
    simp only [List.getElem?_cons_zero] at f0 f1
    have fz := HRS.out.lt
    have fz2 := HRS2.out.lt
    have HB2 := Lib.hid (Below.then HB1.out hx2.below HB1.out.size)
    have HR2 := Lib.hid (HR1.out.up hx2.below)
    have HM8 := Lib.hid hm
    have HX2 := Lib.hid hx2
    clear hx2 hm
    go_wp2_with fail
    rw [← hW2]
    clear hW2 hlk f0
    refine (ctValid_any nm HNL.out W2).mono ?_
    rintro e w2 ⟨rfl, rfl⟩
    have r2 := HR2.out
    have e0 : w2.cell? ⟨w.heap.size, 0, none⟩ = some (.map none) := r2.cell 0
    have e1 := r2.frozen 0
    have e2 := r2.lt
    cases hn : nameF nm
    · have HN7 := Lib.hid hn
      clear hn r2
      go_wp2_with fail
      obtain ⟨W9, hW9⟩ : ∃ W9, W9 = w2.setCell ⟨w.heap.size, 0, none⟩ (.map none) := ⟨_, rfl⟩
      rw [← hW9]
      have q := HR2.out.set 0 (.map none)
      rw [← hW9] at q
      have c9 := q.cell 0
      have hb9 : Below w.heap.size w W9 := by rw [hW9]; exact HB2.out.setCell (Nat.le_refl _) _
      exact bodyPost_ret (v := .tuple #[.agg #[.map none], .int .i64 7]) (by simp [results, Tryz.results7, go_sem, c9]) rfl (NewPostC.err (HBAD.out 7 (by unfold errSch; rw [if_pos HN7.out]) (by decide)) (by decide) hb9)
    have HN7 := Lib.hid hn
    clear hn r2
    by_cases h6 : 6 < ks.length
    · have hd6 : decide ((6 : Int) < (ks.length : Int)) = true := decide_eq_true (by omega)
      go_wp2_with fail
      obtain ⟨W9, hW9⟩ : ∃ W9, W9 = w2.setCell ⟨w.heap.size, 0, none⟩ (.map none) := ⟨_, rfl⟩
      rw [← hW9]
      have q := HR2.out.set 0 (.map none)
      rw [← hW9] at q
      have c9 := q.cell 0
      have hb9 : Below w.heap.size w W9 := by rw [hW9]; exact HB2.out.setCell (Nat.le_refl _) _
      exact bodyPost_ret (v := .tuple #[.agg #[.map none], .int .i64 6]) (by simp [results, Tryz.results7, go_sem, c9]) rfl (NewPostC.err (HBAD.out 6 (by unfold errSch; rw [if_neg (by rw [HN7.out]; decide), if_neg (by rw [HM8.out]; decide), if_pos h6]) (by decide)) (by decide) hb9)
    have hd6 : decide ((6 : Int) < (ks.length : Int)) = false := decide_eq_false (by omega)
    go_wp2_with fail
    have HFL := Lib.hid (And.intro f1 (And.intro f2 (And.intro e0 (And.intro e1 (And.intro fz2 e2)))))
    go_loopw [53] (fun c wx => ∃ k : Nat, k ≤ ks.length ∧ c = .int .i64 k ∧ (∀ j (h : j < ks.length), j < k → ks[j] = 1 ∨ ks[j] = 2) ∧ wx = w2) (fun c _ => ks.length - (intOf c).toNat)
    case atStart => exact ⟨0, Nat.zero_le _, rfl, fun j _ hj => by omega, rfl⟩
    case round =>
      obtain ⟨k, hk, rfl, hall, rfl⟩ := hrel
      have HALL := Lib.hid hall
      clear hall
      by_cases hkl : k < ks.length
      · obtain ⟨kb, ko, rfl, hkb, hkc⟩ := HSK.out (by intro h0; rw [List.map_eq_nil_iff.1 h0] at hkl; simp at hkl)
        have hb12 : Below wo.heap.size wo wr := Below.then HX1.out.below HX2.out.below HX1.out.size
        have kc := (hb12.cell (p := ⟨kb, ko + k, none⟩) hkb).trans (hkc k (.int .i64 ks[k]) (by rw [List.getElem?_map, List.getElem?_eq_getElem hkl]; rfl))
        have hkb2 := Nat.lt_of_lt_of_le hkb hb12.size
        have g3 : (0 : Int) ≤ (k : Int) := by omega
        have g4 : (k : Int) < (ks.length : Int) := by omega
        have hw2 : IntKind.i64.wrap ((k : Int) + 1) = ((k + 1 : Nat) : Int) := by rw [IntWalk.i64_in _ (by omega)]; omega
        have HMEM : Hid (ks[k] ∈ ks) := List.getElem_mem hkl
        have HNX : Hid ((ks[k] = 1 ∨ ks[k] = 2) → ∀ j (h : j < ks.length), j < k + 1 → ks[j] = 1 ∨ ks[j] = 2) := fun hx j h hj => by
          rcases Nat.lt_or_ge j k with h1 | h1
          · exact HALL.out j h h1
          · obtain rfl : j = k := by omega
            exact hx
        generalize ks[k] = x at *
        clear hkc hb12
        by_cases hx1 : x = 1
        · have ne1 : (x != 1) = false := by rw [hx1]; rfl
          have HX5 := Lib.hid (HNX.out (.inl hx1))
          clear hx1 HNX
          go_wp2
          go_roundw
          case rel => exact ⟨k + 1, hkl, by go_num, HX5.out, by first | rfl | trivial⟩
          case measure => simp [intOf]; omega
        · have ne1 : (x != 1) = true := by simpa using hx1
          by_cases hx2 : x = 2
          · have ne2 : (x != 2) = false := by rw [hx2]; rfl
            have HX5 := Lib.hid (HNX.out (.inr hx2))
            clear hx1 hx2 HNX
            go_wp2
            go_roundw
            case rel => exact ⟨k + 1, hkl, by go_num, HX5.out, by first | rfl | trivial⟩
            case measure => simp [intOf]; omega
          · have ne2 : (x != 2) = true := by simpa using hx2
            have HX5 : Hid (∃ k ∈ ks, k ≠ 1 ∧ k ≠ 2) := ⟨x, HMEM.out, hx1, hx2⟩
            clear hx1 hx2 HNX
            go_wp2
            obtain ⟨W9, hW9⟩ : ∃ W9, W9 = wr.setCell ⟨w.heap.size, 0, none⟩ (.map none) := ⟨_, rfl⟩
            rw [← hW9]
            have q := HR2.out.set 0 (.map none)
            rw [← hW9] at q
            have c9 := q.cell 0
            have hb9 : Below w.heap.size w W9 := by rw [hW9]; exact HB2.out.setCell (Nat.le_refl _) _
            exact bodyPost_ret (v := .tuple #[.agg #[.map none], .int .i64 2]) (by simp [results, Tryz.results7, go_sem, c9]) rfl (NewPostC.err (HBAD.out 2 (by unfold errSch; rw [if_neg (by rw [HN7.out]; decide), if_neg (by rw [HM8.out]; decide), if_neg h6, if_pos HX5.out]) (by decide)) (by decide) hb9)
      · obtain rfl : k = ks.length := by omega
        have HZ : Hid (errSch ((X.take i).map Prod.fst) (nm, ks) = 0) := by
          show _ = _
          unfold errSch
          rw [if_neg (by rw [HN7.out]; decide), if_neg (by rw [HM8.out]; decide), if_neg h6, if_neg]
          rintro ⟨x, hx, h1, h2⟩
          obtain ⟨j, hj, rfl⟩ := List.getElem_of_mem hx
          exact (HALL.out j hj hj).elim h1 h2
        go_wp2_with fail
        refine (rlNew_ok (ks.length : Nat) wr (by omega) (by omega)).mono ?_
        rintro e w4 ⟨rfl, hx4⟩
        have hx5 : Ext w4 (w4.alloc (.cells #[.int .i64 (ks.length : Nat), .slice none 0 0] 71)) := (Ext.refl w4).alloc _
        have hrl := Row.new w4 71 [.int .i64 (ks.length : Nat), .slice none 0 0]
        have hbo : Below wo.heap.size wo (w4.alloc (.cells #[.int .i64 (ks.length : Nat), .slice none 0 0] 71)) := Below.then (Below.then (Below.then HX1.out.below HX2.out.below HX1.out.size) hx4.below (by have := HX1.out.size; have := HX2.out.size; omega)) hx5.below (by have := HX1.out.size; have := HX2.out.size; have := hx4.size; omega)
        obtain ⟨w5, hw5⟩ : ∃ w5, w5 = w4.alloc (.cells #[.int .i64 (ks.length : Nat), .slice none 0 0] 71) := ⟨_, rfl⟩
        rw [← hw5] at hrl hbo hx5
        have HRL := Lib.hid hrl
        have HBO := Lib.hid hbo
        have HRS5 := Lib.hid ((HRS2.out.up hx4.below).up hx5.below)
        have HW5 := Lib.hid hw5
        have hlo4 : wo.heap.size ≤ w4.heap.size := by have := HX1.out.size; have := HX2.out.size; have := hx4.size; omega
        clear hx4 hx5 hrl hbo hw5
        go_upto_region 22 with (fail)
        rw [← HW5.out]
        obtain ⟨rb, hrb⟩ : ∃ rb, rb = w4.heap.size := ⟨_, rfl⟩
        rw [← hrb] at HRL hlo4 ⊢
        clear hrb HW5 f1 f2 e0 e1 e2 fz fz2
        have hz1 := HRS5.out.lt
        have hz2 := HRL.out.lt
        have HKP : Hid (∀ V, Below w5.heap.size w5 V → V.cell? ⟨wo.heap.size, 0, none⟩ = some (.string nm) ∧ V.cell? ⟨wo.heap.size, 1, none⟩ = some (.slice KA ks.length KC) ∧ V.cell? ⟨rb, 0, none⟩ = some (.int .i64 (ks.length : Nat)) ∧ V.cell? ⟨rb, 1, none⟩ = some (.slice none 0 0)) := fun V hb => ⟨(HRS5.out.up hb).cell 0, (HRS5.out.up hb).cell 1, (HRL.out.up hb).cell 0, (HRL.out.up hb).cell 1⟩
        have HOV := Lib.hid (fun V (hb : Below w5.heap.size w5 V) => map_up HO.out (Below.then HBO.out hb HBO.out.size))
        have hrbo : rb ≠ w.heap.size + 1 := by omega
        refine wp_region_held_drew (S := (fun w' => w'.cell? ⟨wo.heap.size, 0, none⟩ = some (.string nm) ∧ w'.cell? ⟨wo.heap.size, 1, none⟩ = some (.slice KA ks.length KC) ∧ w'.cell? ⟨rb, 0, none⟩ = some (.int .i64 (ks.length : Nat)) ∧ w'.cell? ⟨rb, 1, none⟩ = some (.slice none 0 0))) (by kernel_rfl) (HKP.out w5 (Below.refl _ _)) (fun hHeld => ?_)
        refine takeOp (i := 0) (v := ?_) (some 79) rfl rfl (by kernel_rfl) (by kernel_rfl) (by kernel_rfl) (fun _ _ _ h => h) (Or.inl ⟨by rfl, ?_⟩) (by assumption) ?_
        rotate_left 1
        · (intro w0 hSw; (try dsimp only at hSw); go_simp; try (with_reducible rfl))
        try simp only [Act.put]
        try simp only [List.setIfInBounds_toArray]
        try simp only [List.set_cons_succ]
        try simp only [List.set_cons_zero]
        refine takeOp (i := 1) (v := ?_) (some 80) rfl rfl (by kernel_rfl) (by kernel_rfl) (by kernel_rfl) (fun _ _ _ h => h) (Or.inl ⟨by rfl, ?_⟩) (by assumption) ?_
        rotate_left 1
        · (intro w0 hSw; (try dsimp only at hSw); go_simp; try (with_reducible rfl))
        try simp only [Act.put]
        try simp only [List.setIfInBounds_toArray]
        try simp only [List.set_cons_succ]
        try simp only [List.set_cons_zero]
        refine takeOp (i := 2) (v := ?_) (some 81) rfl rfl (by kernel_rfl) (by kernel_rfl) (by kernel_rfl) (fun _ _ _ h => h) (Or.inl ⟨by rfl, ?_⟩) (by assumption) ?_
        rotate_left 1
        · (intro w0 hSw; (try dsimp only at hSw); go_simp; try (with_reducible rfl))
        try simp only [Act.put]
        try simp only [List.setIfInBounds_toArray]
        try simp only [List.set_cons_succ]
        try simp only [List.set_cons_zero]
        refine takeOp (i := 3) (v := ?_) (some 82) rfl rfl (by kernel_rfl) (by kernel_rfl) (by kernel_rfl) (fun _ _ _ h => h) (Or.inl ⟨by rfl, ?_⟩) (by assumption) ?_
        rotate_left 1
        · (intro w0 hSw; (try dsimp only at hSw); go_simp; try (with_reducible rfl))
        try simp only [Act.put]
        try simp only [List.setIfInBounds_toArray]
        try simp only [List.set_cons_succ]
        try simp only [List.set_cons_zero]
        refine takeOp (i := 4) (v := ?_) (some 83) rfl rfl (by kernel_rfl) (by kernel_rfl) (by kernel_rfl) (fun _ _ _ h => h) (Or.inl ⟨by rfl, ?_⟩) (by assumption) ?_
        rotate_left 1
        · (intro w0 hSw; (try dsimp only at hSw); go_simp; try (with_reducible rfl))
        try simp only [Act.put]
        try simp only [List.setIfInBounds_toArray]
        try simp only [List.set_cons_succ]
        try simp only [List.set_cons_zero]
        refine takeOp (i := 6) (v := ?_) (some 85) rfl rfl (by kernel_rfl) (by kernel_rfl) (by kernel_rfl) (fun _ _ _ h => h) (Or.inl ⟨by rfl, ?_⟩) (by assumption) ?_
        rotate_left 1
        · (intro w0 hSw; (try dsimp only at hSw); go_simp; try (with_reducible rfl))
        try simp only [Act.put]
        try simp only [List.setIfInBounds_toArray]
        try simp only [List.set_cons_succ]
        try simp only [List.set_cons_zero]
        refine wpAnyH_ready (rs := [5]) (by kernel_rfl) (by simp) ?_
        refine AllReadyH.cons rfl (fun K hK => ?_) AllReadyH.nil
        go_simp
        refine (cloneInt_any KA KC ks w5.drew ((Sl.below HSK.out HBO.out (Nat.le_refl _)).more HBO.out.size) (by omega)).mono ?_
        rintro e V1 ⟨v, rfl, hown, hb⟩
        obtain ⟨CA, CC, rfl, hcc, hcm, -⟩ := own_cut hown (by decide)
        have HV1 : Hid (Below w5.heap.size w5 V1) := Below.undrew hb
        have HOWN := Lib.hid hown
        clear hown hb hcc hcm
        go_wp2_with fail
        refine hK.out _ _ (HKP.out V1 HV1.out) (fun hHeld => ?_)
        clear hK K
        try simp only [Act.put]
        try simp only [List.setIfInBounds_toArray]
        try simp only [List.set_cons_succ]
        try simp only [List.set_cons_zero]
        refine takeOp (i := 7) (v := ?_) (some 86) rfl rfl (by kernel_rfl) (by kernel_rfl) (by kernel_rfl) (fun _ _ _ h => h) (Or.inl ⟨by rfl, ?_⟩) (by assumption) ?_
        rotate_left 1
        · (intro w0 hSw; (try dsimp only at hSw); go_simp; try (with_reducible rfl))
        try simp only [Act.put]
        try simp only [List.setIfInBounds_toArray]
        try simp only [List.set_cons_succ]
        try simp only [List.set_cons_zero]
        refine wpAnyH_ready (rs := [8]) (by kernel_rfl) (by simp) ?_
        refine AllReadyH.cons rfl (fun K hK => ?_) AllReadyH.nil
        refine stepUpd (w := V1) rfl (.tmp 79) (.tmp 81) (.tmp 86) 27 rfl 9 73 keyedS Tryz.underlying27 (w.heap.size + 1) (Maps.size D) D (by simp [Act.eval]) (HOV.out V1 HV1.out) (by rw [HENT.out.1, List.length_take]; simp only [maxLen]; omega) (.string nm) (.agg #[.slice CA ks.length CC, .int .i64 (ks.length : Nat), .slice none 0 0]) (litS nm) (by simp [Act.eval]) (by simp [Act.eval]) (keyS HNL.out) ?_
        intro V2 hown2 hg2
        have HG2 := Lib.hid hg2
        have HO2 := Lib.hid hown2
        have KEEP8 : V2.cell? ⟨wo.heap.size, 0, none⟩ = some (.string nm) ∧ V2.cell? ⟨wo.heap.size, 1, none⟩ = some (.slice KA ks.length KC) ∧ V2.cell? ⟨rb, 0, none⟩ = some (.int .i64 (ks.length : Nat)) ∧ V2.cell? ⟨rb, 1, none⟩ = some (.slice none 0 0) := by
          have q1 := (HRS5.out.up HV1.out).grown hg2 (by intro e; injection e with e; omega)
          have q2 := (HRL.out.up HV1.out).grown hg2 (by intro e; injection e with e; exact hrbo e)
          exact ⟨q1.cell 0, q1.cell 1, q2.cell 0, q2.cell 1⟩
        clear hown2 hg2
        refine hK.out _ _ KEEP8 (fun hHeld => ?_)
        clear hK K
        try simp only [Act.put]
        try simp only [List.setIfInBounds_toArray]
        try simp only [List.set_cons_succ]
        try simp only [List.set_cons_zero]
        refine wpAnyH_done (by kernel_rfl) ?_ _
        have HB1V : Hid (Below wo.heap.size wo V1) := Below.then HBO.out HV1.out HBO.out.size
        have hlt : w.heap.size + 1 < V1.heap.size := by have := HB1V.out.size; omega
        have HST : Hid (Stay (fun b => (P b ∧ b ≠ w.heap.size) ∧ b ≠ w.heap.size + 1) wo V2) := (Stay.of HB1V.out).trans (Stay.grown HG2.out (fun e => e.2 rfl))
        have HEM : Hid (EntM (fun b => (P b ∧ b ≠ w.heap.size) ∧ b ≠ w.heap.size + 1) V2 (.agg #[.slice CA ks.length CC, .int .i64 (ks.length : Nat), .slice none 0 0]) ks []) := by
          have hs := own_slip (P := fun b => (P b ∧ b ≠ w.heap.size) ∧ b ≠ w.heap.size + 1) HOWN.out rfl fun b hb => by
            have hb : w5.heap.size ≤ b := hb
            have := HBO.out.size
            exact ⟨⟨HPN.out _ (by omega), by omega⟩, by omega⟩
          exact ⟨CA, CC, none, 0, rfl, by omega, hs.keep (Stay.grown HG2.out (fun e => e.2 rfl)), Nat.le_refl _, by omega, SlRsP.nil, RowsOk.nil _⟩
        have HADD : Hid (EntsM (fun b => (P b ∧ b ≠ w.heap.size) ∧ b ≠ w.heap.size + 1) (X.take (i + 1)) V2 (D.put (litS nm) (.held (.agg #[.slice CA ks.length CC, .int .i64 (ks.length : Nat), .slice none 0 0]))) (fun _ => [])) := by
          show EntsM _ _ _ _ _
          rw [HTK.out]
          exact EntsM.add HENT.out (HO.out.tidy keyedS) HM8.out HST.out HEM.out
        have HROW2 : Hid (Row V2 w.heap.size 29 [.map none]) := (HROW.out.up HB1V.out).grown HG2.out (by intro e; injection e with e; omega)
        have HBW2 : Hid (Below w.heap.size w V2) := (Below.then HB.out HB1V.out hzb).grown HG2.out (by have := HB1V.out.size; omega) (fun k hk => by injection hk with hk; omega)
        have HZZ : Hid (w.heap.size + 1 + 1 ≤ V2.heap.size) := by show _ ≤ _; have := HG2.out.size; omega
        go_wp2
        go_roundw
        case rel => exact ⟨i + 1, _, hil, by go_num, HGOOD.out HZ.out, map_tight HO2.out, HADD.out, HROW2.out, HBW2.out, HZZ.out⟩
        case measure => simp [intOf]; omega

end Go.Proofs.YtgaffbdcpkbdhaaGreat
end

section
/- Walk: catalog.Check. -/
namespace Go.Proofs.YtgaffbdcpkbdhaaGreat
open Go.RowKit Go.Sort Go.ChangeMaps Go.WideShapes

set_option maxHeartbeats 400000 in
set_option maxRecDepth 100000 in
theorem rwValid_max (XA : Option Addr) (XC : Nat) (x : RL.R) (w : World) (hx : SlR w.heap.size w XA x) (hxl : x.length ≤ 1000000) (hs : ∀ v ∈ x, v.str.size ≤ 9223372036854775807) :
    Calls Tryz.prog 48 #[.slice XA x.length XC] w fun e w' => e = .returned (.bool (x.all RL.validV)) ∧ Ext w w' := by
  have HX := Lib.hid hx
  have HST := Lib.hid hs
  clear hx hs
  go_enter Tryz.func48, Tryz.ntmps48
  go_wp2
  go_loopw [6] (fun i wr => ∃ k : Nat, k ≤ x.length ∧ i = .int .i64 k ∧ x.all RL.validV = (x.drop k).all RL.validV ∧ Ext w wr) (fun i _ => x.length - (intOf i).toNat)
  case atStart => exact ⟨0, Nat.zero_le _, rfl, by simp, Ext.refl _⟩
  case round =>
    obtain ⟨k, hka, rfl, hd, he⟩ := hrel
    have HD := Lib.hid hd
    clear hd
    by_cases h1 : k < x.length
    · obtain ⟨b, o, rfl, hb, c1, c2, c3⟩ := slR_at HX.out h1
      obtain ⟨hc, hf⟩ := he.rules
      have HN := Lib.hid (HD.out.trans (by rw [List.drop_eq_getElem_cons h1, List.all_cons] : (x.drop k).all RL.validV = (RL.validV x[k] && (x.drop (k + 1)).all RL.validV)))
      have HC : Hid (∀ W, Calls Tryz.prog 63 #[vv x[k]] W fun e w' => e = .returned (.bool (RL.validV x[k])) ∧ Ext W w') := fun W => vValid_any x[k] W (HST.out _ (List.getElem_mem h1))
      generalize x[k] = u at c1 c2 c3 HN HC
      cases hv : RL.validV u
      · rw [hv] at HC HN
        clear hv
        go_wp2_with fail
        refine (HC.out _).mono ?_
        rintro e w2 ⟨rfl, hx2⟩
        have HE2 := Lib.hid (he.trans hx2)
        clear hc hf c1 c2 c3 hx2 he
        go_wp2
        go_ret
        exact ⟨ret_bool (by rw [HN.out]; rfl), HE2.out⟩
      · rw [hv] at HC HN
        clear hv
        go_wp2_with fail
        refine (HC.out _).mono ?_
        rintro e w2 ⟨rfl, hx2⟩
        have HE2 := Lib.hid (he.trans hx2)
        clear hc hf c1 c2 c3 hx2 he
        go_wp2
        go_roundw
        case rel => exact ⟨k + 1, by omega, by go_num, by rw [HN.out]; rfl, HE2.out⟩
        case measure => simp [intOf]; omega
    · have HR := Lib.hid (HD.out.trans (by rw [List.drop_of_length_le (by omega)]; rfl : (x.drop k).all RL.validV = true))
      go_wp2
      go_ret
      exact ⟨ret_bool HR.out.symm, he⟩


def checkE (ks : List Int) (x : RL.R) : Int := if x.length ≠ ks.length then 6 else if x.all RL.validV = false then 4 else if x.map (·.kind) = ks then 0 else 5
def checkF (S : Sch) (nm : ByteArray) (x : RL.R) : Int := match S.find? (fun p => decide (p.1 = nm)) with
  | none => 7
  | some p => checkE p.2 x
theorem DbM.ents {P : Nat → Prop} {S : Sch} {w : World} {m : Value} {F : Cont} (h : DbM P S w m F) : ∃ b D, m = .map (some b) ∧ P b ∧ w.ownsMap Tryz.prog 9 heldR b (Maps.size D) D ∧ EntsM P S w D F := by
  obtain ⟨b, D, h1, h2, h3, h4, h5, h6⟩ := h
  exact ⟨b, D, h1, h2, h3, h4, h5, h6⟩

set_option maxHeartbeats 4000000 in
set_option maxRecDepth 100000 in
theorem ctCheck_any {P : Nat → Prop} {S : Sch} {m : Value} {F : Cont} (del : Bool) (nm : ByteArray) (RA : Option Addr) (RC : Nat) (x : RL.R) (w : World) (hd : DbM P S w m F) (hnm : nm.size ≤ 9223372036854775807) (hx : SlR w.heap.size w RA x) (hxl : x.length ≤ 1000000) (hs : ∀ v ∈ x, v.str.size ≤ 9223372036854775807) :
    Calls Tryz.prog 30 #[.agg #[m], .agg #[.bool del, .string nm, .slice RA x.length RC]] w fun e w' => e = .returned (.int .i64 (checkF S nm x)) ∧ Ext w w' := by
  obtain ⟨b, D, rfl, -, hown, hent⟩ := hd.ents
  obtain ⟨W0, hW0⟩ : ∃ W0, W0 = (w.alloc (.cells #[.map (some b)] 29)).alloc (.cells #[.bool del, .string nm, .slice RA x.length RC] 61) := ⟨_, rfl⟩
  have hx0 : Ext w W0 := by rw [hW0]; exact ((Ext.refl w).alloc _).alloc _
  have hr1 : Row W0 w.heap.size 29 [.map (some b)] := by rw [hW0]; exact (Row.new w 29 _).alloc _
  have hr2 : Row W0 (w.heap.size + 1) 61 [.bool del, .string nm, .slice RA x.length RC] := by
    have h := Row.new (w.alloc (.cells #[.map (some b)] 29)) 61 [.bool del, .string nm, .slice RA x.length RC]
    rw [World.size_alloc] at h
    rw [hW0]; exact h
  have hm0 := map_up hown hx0.below
  have HX0 := Lib.hid hx0
  have HR2 := Lib.hid hr2
  have f0 : W0.cell? ⟨w.heap.size, 0, none⟩ = some (.map (some b)) := hr1.cell 0
  have f1 : W0.cell? ⟨w.heap.size + 1, 1, none⟩ = some (.string nm) := hr2.cell 1
  have z1 := hr1.lt
  have z2 := hr2.lt
  have HX := Lib.hid hx
  have HS := Lib.hid hs
  have hhas := hent.has nm
  cases hf : S.find? (fun p => decide (p.1 = nm)) with
  | none =>
    have hmem : memB nm (S.map Prod.fst) = false := by
      cases hmm : memB nm (S.map Prod.fst)
      · rfl
      · obtain ⟨p, hp, e⟩ := List.mem_map.1 (memB_iff.1 hmm)
        have := List.find?_eq_none.1 hf p hp
        simp [e] at this
    rw [hmem] at hhas
    have hlk := (look_no keyedS Tryz.underlying27 zeroEnt hm0 (keyS hnm) hhas).1
    have HCF : Hid (checkF S nm x = 7) := by show _ = _; unfold checkF; rw [hf]
    clear hr1 hr2 hx0 hown hent hm0 hhas hmem hf hx hs hd
    go_enter Tryz.func30, Tryz.ntmps30
    go_upto_region 1 with (fail)
    rw [← hW0]
    clear hW0
    go_wp2_with fail
    exact bodyPost_ret (v := .int .i64 7) (by simp [results, Tryz.results30, go_sem]) rfl ⟨by rw [HCF.out], HX0.out.alloc _⟩
  | some p =>
    have hp : p ∈ S := List.mem_of_find?_eq_some hf
    have hpe : p.1 = nm := by have := List.find?_some hf; simpa using this
    obtain ⟨nm2, ks⟩ := p
    have hpe : nm2 = nm := hpe
    subst hpe
    obtain ⟨val, hv1, KA, KC, A, C, rfl, hk6, hki, hxc, hxm, hsl, hro⟩ := hent.2.2 (nm2, ks) hp
    have hlk := (look_yes keyedS Tryz.underlying27 zeroEnt hm0 (keyS hnm) hv1).1
    have HCF : Hid (checkF S nm2 x = checkE ks x) := by show _ = _; unfold checkF; rw [hf]
    have HKI := Lib.hid hki
    have hk6 : ks.length ≤ 6 := hk6
    obtain ⟨W1, hW1⟩ : ∃ W1, W1 = W0.alloc (.cells #[.slice KA ks.length KC, .int .i64 (ks.length : Nat), .slice A (F nm2).length C] 73) := ⟨_, rfl⟩
    have hx1 : Ext W0 W1 := by rw [hW1]; exact (Ext.refl W0).alloc _
    have hr3 : Row W1 W0.heap.size 73 [.slice KA ks.length KC, .int .i64 (ks.length : Nat), .slice A (F nm2).length C] := by rw [hW1]; exact Row.new W0 73 _
    have hr4 := hr2.up hx1.below
    have f2 : W1.cell? ⟨W0.heap.size, 0, none⟩ = some (.slice KA ks.length KC) := hr3.cell 0
    have f3 : W1.cell? ⟨w.heap.size + 1, 2, none⟩ = some (.slice RA x.length RC) := hr4.cell 2
    have z3 := hr3.lt
    have z4 := hr4.lt
    have HR3 := Lib.hid hr3
    have HR4 := Lib.hid hr4
    have HX1 := Lib.hid hx1
    clear hr1 hr2 hr3 hr4 hx0 hx1 hown hent hm0 hhas hf hx hs hd hv1 hki hsl hro hxc hxm
    go_enter Tryz.func30, Tryz.ntmps30
    go_upto_region 1 with (fail)
    rw [← hW0]
    clear hW0
    go_upto_region 2 with (fail)
    rw [← hW1]
    clear hW1 hlk f0 f1
    by_cases hl : x.length = ks.length
    rotate_left
    · have hne : ((x.length : Int) != (ks.length : Int)) = true := by
        have : (x.length : Int) ≠ (ks.length : Int) := by omega
        simpa using this
      have HCE : Hid (checkE ks x = 6) := by show _ = _; unfold checkE; rw [if_pos hl]
      go_wp2_with fail
      exact bodyPost_ret (v := .int .i64 6) (by simp [results, Tryz.results30, go_sem]) rfl ⟨by rw [HCF.out, HCE.out], HX0.out.trans HX1.out⟩
    have hne : ((x.length : Int) != (ks.length : Int)) = false := by
      have : (x.length : Int) = (ks.length : Int) := by omega
      simpa using this
    have HLL := Lib.hid hl
    clear hl
    go_upto_region 6 with (fail)
    have HV := Lib.hid (rwValid_max RA RC x W1 ((HX.out.ext (Nat.le_refl _) (HX0.out.trans HX1.out)).more (HX0.out.trans HX1.out).size) hxl HS.out)
    go_wp2_with fail
    refine HV.out.mono ?_
    rintro e w2 ⟨rfl, hx2⟩
    have r4 := HR4.out.up hx2.below
    have r3 := HR3.out.up hx2.below
    have HX2 := Lib.hid hx2
    have f4 : w2.cell? ⟨W0.heap.size, 0, none⟩ = some (.slice KA ks.length KC) := r3.cell 0
    have f5 : w2.cell? ⟨w.heap.size + 1, 2, none⟩ = some (.slice RA x.length RC) := r4.cell 2
    have z5 := r3.lt
    have z6 := r4.lt
    have HR3 := Lib.hid r3
    have HR4 := Lib.hid r4
    clear hx2 HV f2 f3 z3 z4 r3 r4
    cases hv : x.all RL.validV
    · have HCE : Hid (checkE ks x = 4) := by show _ = _; unfold checkE; rw [if_neg (by simpa using HLL.out), if_pos hv]
      go_wp2_with fail
      exact bodyPost_ret (v := .int .i64 4) (by simp [results, Tryz.results30, go_sem]) rfl ⟨by rw [HCF.out, HCE.out], (HX0.out.trans HX1.out).trans HX2.out⟩
    have HVV := Lib.hid hv
    clear hv
    have HXW : Hid (Ext w w2) := (HX0.out.trans HX1.out).trans HX2.out
    have HSX := Lib.hid ((HX.out.ext (Nat.le_refl _) HXW.out).more HXW.out.size)
    have HSK : Hid (SlIP P w2 KA ks) := HKI.out.keep (Stay.of HXW.out.below)
    go_wp2_with fail
    go_loopw [35] (fun c wx => ∃ k : Nat, k ≤ ks.length ∧ c = .int .i64 k ∧ (x.map (·.kind)).take k = ks.take k ∧ Ext w2 wx) (fun c _ => ks.length - (intOf c).toNat)
    case atStart => exact ⟨0, Nat.zero_le _, rfl, rfl, Ext.refl _⟩
    case round =>
      obtain ⟨k, hk, rfl, hall, hxr⟩ := hrel
      have HALL := Lib.hid hall
      have HXR := Lib.hid hxr
      have HSX2 := Lib.hid ((HSX.out.ext (Nat.le_refl _) hxr).more hxr.size)
      have HSK2 : Hid (SlIP P wr KA ks) := HSK.out.keep (Stay.of hxr.below)
      have r3 := HR3.out.up hxr.below
      have r4 := HR4.out.up hxr.below
      have f4 : wr.cell? ⟨W0.heap.size, 0, none⟩ = some (.slice KA ks.length KC) := r3.cell 0
      have f5 : wr.cell? ⟨w.heap.size + 1, 2, none⟩ = some (.slice RA x.length RC) := r4.cell 2
      have z5 := r3.lt
      have z6 := r4.lt
      have HXW2 := Lib.hid (HXW.out.trans hxr)
      clear hall hxr r3 r4
      by_cases hkl : k < ks.length
      · obtain ⟨kb, ko, rfl, hkb, -, hkc⟩ := HSK2.out (by intro h0; rw [h0] at hkl; simp at hkl)
        have kc := hkc k (.int .i64 ks[k]) (by rw [List.getElem?_map, List.getElem?_eq_getElem hkl]; rfl)
        have hkx : k < x.length := by have := HLL.out; omega
        obtain ⟨xb, xo, rfl, hxb, c1, c2, c3⟩ := slR_at HSX2.out hkx
        have g1 : (0 : Int) ≤ (k : Int) := by omega
        have g2 : (k : Int) < (ks.length : Int) := by omega
        have g3 : (k : Int) < (x.length : Int) := by omega
        have hw2 : IntKind.i64.wrap ((k : Int) + 1) = ((k + 1 : Nat) : Int) := by rw [IntWalk.i64_in _ (by omega)]; omega
        have HKK : Hid (x[k].kind = ks[k] → (x.map (·.kind)).take (k + 1) = ks.take (k + 1)) := fun e => by
          rw [List.take_succ_eq_append_getElem (show k < (x.map (·.kind)).length by rw [List.length_map]; exact hkx), List.take_succ_eq_append_getElem hkl, HALL.out, List.getElem_map, e]
        have HKN : Hid (x[k].kind ≠ ks[k] → x.map (·.kind) ≠ ks) := fun e h => e (by
          have : (x.map (·.kind))[k]'(by rw [List.length_map]; exact hkx) = ks[k] := by simp only [h]
          rw [List.getElem_map] at this
          exact this)
        clear hkc
        generalize x[k] = v at *
        generalize ks[k] = kk at *
        by_cases he : v.kind = kk
        · have hne : (v.kind != kk) = false := by rw [he]; simp
          have HK2 := Lib.hid (HKK.out he)
          clear he HKK HKN
          go_upto_region 11 with (fail)
          refine wp_region_held_drew (S := (fun w' => w'.cell? ⟨w.heap.size + 1, 2, none⟩ = some (.slice (some ⟨xb, xo, none⟩) x.length RC) ∧ w'.cell? ⟨xb, xo + k * 3, none⟩ = some (.int .i64 v.kind) ∧ w'.cell? ⟨W0.heap.size, 0, none⟩ = some (.slice (some ⟨kb, ko, none⟩) ks.length KC) ∧ w'.cell? ⟨kb, ko + k, none⟩ = some (.int .i64 kk))) (by kernel_rfl) ⟨f5, c1, f4, kc⟩ (fun hHeld => ?_)
          refine takeOp (i := 0) (v := ?_) (some 38) rfl rfl (by kernel_rfl) (by kernel_rfl) (by kernel_rfl) (fun _ _ _ h => h) (Or.inl ⟨by rfl, ?_⟩) (by assumption) ?_
          rotate_left 1
          · (intro w0 hSw; (try dsimp only at hSw); go_simp; try (with_reducible rfl))
          try simp only [Act.put]
          try simp only [List.setIfInBounds_toArray]
          try simp only [List.set_cons_succ]
          try simp only [List.set_cons_zero]
          refine takeOp (i := 1) (v := ?_) (some 39) rfl rfl (by kernel_rfl) (by kernel_rfl) (by kernel_rfl) (fun _ _ _ h => h) (Or.inl ⟨by rfl, ?_⟩) (by assumption) ?_
          rotate_left 1
          · (intro w0 hSw; (try dsimp only at hSw); go_simp; try (with_reducible rfl))
          try simp only [Act.put]
          try simp only [List.setIfInBounds_toArray]
          try simp only [List.set_cons_succ]
          try simp only [List.set_cons_zero]
          refine takeOp (i := 2) (v := ?_) (some 40) rfl rfl (by kernel_rfl) (by kernel_rfl) (by kernel_rfl) (fun _ _ _ h => h) (Or.inl ⟨by rfl, ?_⟩) (by assumption) ?_
          rotate_left 1
          · (intro w0 hSw; (try dsimp only at hSw); go_simp; try (with_reducible rfl))
          try simp only [Act.put]
          try simp only [List.setIfInBounds_toArray]
          try simp only [List.set_cons_succ]
          try simp only [List.set_cons_zero]
          refine takeOp (i := 3) (v := ?_) (some 41) rfl rfl (by kernel_rfl) (by kernel_rfl) (by kernel_rfl) (fun _ _ _ h => h) (Or.inl ⟨by rfl, ?_⟩) (by assumption) ?_
          rotate_left 1
          · (intro w0 hSw; (try dsimp only at hSw); go_simp; try (with_reducible rfl))
          try simp only [Act.put]
          try simp only [List.setIfInBounds_toArray]
          try simp only [List.set_cons_succ]
          try simp only [List.set_cons_zero]
          refine takeOp (i := 4) (v := ?_) (some 42) rfl rfl (by kernel_rfl) (by kernel_rfl) (by kernel_rfl) (fun _ _ _ h => h) (Or.inl ⟨by rfl, ?_⟩) (by assumption) ?_
          rotate_left 1
          · (intro w0 hSw; (try dsimp only at hSw); go_simp; try (with_reducible rfl))
          try simp only [Act.put]
          try simp only [List.setIfInBounds_toArray]
          try simp only [List.set_cons_succ]
          try simp only [List.set_cons_zero]
          refine takeOp (i := 5) (v := ?_) (some 43) rfl rfl (by kernel_rfl) (by kernel_rfl) (by kernel_rfl) (fun _ _ _ h => h) (Or.inl ⟨by rfl, ?_⟩) (by assumption) ?_
          rotate_left 1
          · (intro w0 hSw; (try dsimp only at hSw); go_simp; try (with_reducible rfl))
          try simp only [Act.put]
          try simp only [List.setIfInBounds_toArray]
          try simp only [List.set_cons_succ]
          try simp only [List.set_cons_zero]
          refine takeOp (i := 6) (v := ?_) (some 44) rfl rfl (by kernel_rfl) (by kernel_rfl) (by kernel_rfl) (fun _ _ _ h => h) (Or.inl ⟨by rfl, ?_⟩) (by assumption) ?_
          rotate_left 1
          · (intro w0 hSw; (try dsimp only at hSw); go_simp; try (with_reducible rfl))
          try simp only [Act.put]
          try simp only [List.setIfInBounds_toArray]
          try simp only [List.set_cons_succ]
          try simp only [List.set_cons_zero]
          refine takeOp (i := 7) (v := ?_) (some 45) rfl rfl (by kernel_rfl) (by kernel_rfl) (by kernel_rfl) (fun _ _ _ h => h) (Or.inl ⟨by rfl, ?_⟩) (by assumption) ?_
          rotate_left 1
          · (intro w0 hSw; (try dsimp only at hSw); go_simp; try (with_reducible rfl))
          try simp only [Act.put]
          try simp only [List.setIfInBounds_toArray]
          try simp only [List.set_cons_succ]
          try simp only [List.set_cons_zero]
          refine takeOp (i := 8) (v := ?_) (some 46) rfl rfl (by kernel_rfl) (by kernel_rfl) (by kernel_rfl) (fun _ _ _ h => h) (Or.inl ⟨by rfl, ?_⟩) (by assumption) ?_
          rotate_left 1
          · (intro w0 hSw; (try dsimp only at hSw); go_simp; try (with_reducible rfl))
          try simp only [Act.put]
          try simp only [List.setIfInBounds_toArray]
          try simp only [List.set_cons_succ]
          try simp only [List.set_cons_zero]
          refine takeOp (i := 9) (v := ?_) (some 47) rfl rfl (by kernel_rfl) (by kernel_rfl) (by kernel_rfl) (fun _ _ _ h => h) (Or.inl ⟨by rfl, ?_⟩) (by assumption) ?_
          rotate_left 1
          · (intro w0 hSw; (try dsimp only at hSw); go_simp; try (with_reducible rfl))
          try simp only [Act.put]
          try simp only [List.setIfInBounds_toArray]
          try simp only [List.set_cons_succ]
          try simp only [List.set_cons_zero]
          refine takeOp (i := 10) (v := ?_) (some 48) rfl rfl (by kernel_rfl) (by kernel_rfl) (by kernel_rfl) (fun _ _ _ h => h) (Or.inl ⟨by rfl, ?_⟩) (by assumption) ?_
          rotate_left 1
          · (intro w0 hSw; (try dsimp only at hSw); go_simp; try (with_reducible rfl))
          try simp only [Act.put]
          try simp only [List.setIfInBounds_toArray]
          try simp only [List.set_cons_succ]
          try simp only [List.set_cons_zero]
          refine takeOp (i := 11) (v := ?_) (some 49) rfl rfl (by kernel_rfl) (by kernel_rfl) (by kernel_rfl) (fun _ _ _ h => h) (Or.inl ⟨by rfl, ?_⟩) (by assumption) ?_
          rotate_left 1
          · (intro w0 hSw; (try dsimp only at hSw); go_simp; try (with_reducible rfl))
          try simp only [Act.put]
          try simp only [List.setIfInBounds_toArray]
          try simp only [List.set_cons_succ]
          try simp only [List.set_cons_zero]
          refine wpAnyH_done (by kernel_rfl) ?_ _
          go_wp2
          go_roundw
          case rel => exact ⟨k + 1, hkl, by go_num, HK2.out, HXR.out.drew⟩
          case measure => simp [intOf]; omega
        · have hne : (v.kind != kk) = true := by simpa using he
          have HK2 := Lib.hid (HKN.out he)
          have HCE : Hid (checkE ks x = 5) := by show _ = _; unfold checkE; rw [if_neg (by simpa using HLL.out), if_neg (by rw [HVV.out]; decide), if_neg HK2.out]
          clear he HKK HKN
          go_upto_region 11 with (fail)
          refine wp_region_held_drew (S := (fun w' => w'.cell? ⟨w.heap.size + 1, 2, none⟩ = some (.slice (some ⟨xb, xo, none⟩) x.length RC) ∧ w'.cell? ⟨xb, xo + k * 3, none⟩ = some (.int .i64 v.kind) ∧ w'.cell? ⟨W0.heap.size, 0, none⟩ = some (.slice (some ⟨kb, ko, none⟩) ks.length KC) ∧ w'.cell? ⟨kb, ko + k, none⟩ = some (.int .i64 kk))) (by kernel_rfl) ⟨f5, c1, f4, kc⟩ (fun hHeld => ?_)
          refine takeOp (i := 0) (v := ?_) (some 38) rfl rfl (by kernel_rfl) (by kernel_rfl) (by kernel_rfl) (fun _ _ _ h => h) (Or.inl ⟨by rfl, ?_⟩) (by assumption) ?_
          rotate_left 1
          · (intro w0 hSw; (try dsimp only at hSw); go_simp; try (with_reducible rfl))
          try simp only [Act.put]
          try simp only [List.setIfInBounds_toArray]
          try simp only [List.set_cons_succ]
          try simp only [List.set_cons_zero]
          refine takeOp (i := 1) (v := ?_) (some 39) rfl rfl (by kernel_rfl) (by kernel_rfl) (by kernel_rfl) (fun _ _ _ h => h) (Or.inl ⟨by rfl, ?_⟩) (by assumption) ?_
          rotate_left 1
          · (intro w0 hSw; (try dsimp only at hSw); go_simp; try (with_reducible rfl))
          try simp only [Act.put]
          try simp only [List.setIfInBounds_toArray]
          try simp only [List.set_cons_succ]
          try simp only [List.set_cons_zero]
          refine takeOp (i := 2) (v := ?_) (some 40) rfl rfl (by kernel_rfl) (by kernel_rfl) (by kernel_rfl) (fun _ _ _ h => h) (Or.inl ⟨by rfl, ?_⟩) (by assumption) ?_
          rotate_left 1
          · (intro w0 hSw; (try dsimp only at hSw); go_simp; try (with_reducible rfl))
          try simp only [Act.put]
          try simp only [List.setIfInBounds_toArray]
          try simp only [List.set_cons_succ]
          try simp only [List.set_cons_zero]
          refine takeOp (i := 3) (v := ?_) (some 41) rfl rfl (by kernel_rfl) (by kernel_rfl) (by kernel_rfl) (fun _ _ _ h => h) (Or.inl ⟨by rfl, ?_⟩) (by assumption) ?_
          rotate_left 1
          · (intro w0 hSw; (try dsimp only at hSw); go_simp; try (with_reducible rfl))
          try simp only [Act.put]
          try simp only [List.setIfInBounds_toArray]
          try simp only [List.set_cons_succ]
          try simp only [List.set_cons_zero]
          refine takeOp (i := 4) (v := ?_) (some 42) rfl rfl (by kernel_rfl) (by kernel_rfl) (by kernel_rfl) (fun _ _ _ h => h) (Or.inl ⟨by rfl, ?_⟩) (by assumption) ?_
          rotate_left 1
          · (intro w0 hSw; (try dsimp only at hSw); go_simp; try (with_reducible rfl))
          try simp only [Act.put]
          try simp only [List.setIfInBounds_toArray]
          try simp only [List.set_cons_succ]
          try simp only [List.set_cons_zero]
          refine takeOp (i := 5) (v := ?_) (some 43) rfl rfl (by kernel_rfl) (by kernel_rfl) (by kernel_rfl) (fun _ _ _ h => h) (Or.inl ⟨by rfl, ?_⟩) (by assumption) ?_
          rotate_left 1
          · (intro w0 hSw; (try dsimp only at hSw); go_simp; try (with_reducible rfl))
          try simp only [Act.put]
          try simp only [List.setIfInBounds_toArray]
          try simp only [List.set_cons_succ]
          try simp only [List.set_cons_zero]
          refine takeOp (i := 6) (v := ?_) (some 44) rfl rfl (by kernel_rfl) (by kernel_rfl) (by kernel_rfl) (fun _ _ _ h => h) (Or.inl ⟨by rfl, ?_⟩) (by assumption) ?_
          rotate_left 1
          · (intro w0 hSw; (try dsimp only at hSw); go_simp; try (with_reducible rfl))
          try simp only [Act.put]
          try simp only [List.setIfInBounds_toArray]
          try simp only [List.set_cons_succ]
          try simp only [List.set_cons_zero]
          refine takeOp (i := 7) (v := ?_) (some 45) rfl rfl (by kernel_rfl) (by kernel_rfl) (by kernel_rfl) (fun _ _ _ h => h) (Or.inl ⟨by rfl, ?_⟩) (by assumption) ?_
          rotate_left 1
          · (intro w0 hSw; (try dsimp only at hSw); go_simp; try (with_reducible rfl))
          try simp only [Act.put]
          try simp only [List.setIfInBounds_toArray]
          try simp only [List.set_cons_succ]
          try simp only [List.set_cons_zero]
          refine takeOp (i := 8) (v := ?_) (some 46) rfl rfl (by kernel_rfl) (by kernel_rfl) (by kernel_rfl) (fun _ _ _ h => h) (Or.inl ⟨by rfl, ?_⟩) (by assumption) ?_
          rotate_left 1
          · (intro w0 hSw; (try dsimp only at hSw); go_simp; try (with_reducible rfl))
          try simp only [Act.put]
          try simp only [List.setIfInBounds_toArray]
          try simp only [List.set_cons_succ]
          try simp only [List.set_cons_zero]
          refine takeOp (i := 9) (v := ?_) (some 47) rfl rfl (by kernel_rfl) (by kernel_rfl) (by kernel_rfl) (fun _ _ _ h => h) (Or.inl ⟨by rfl, ?_⟩) (by assumption) ?_
          rotate_left 1
          · (intro w0 hSw; (try dsimp only at hSw); go_simp; try (with_reducible rfl))
          try simp only [Act.put]
          try simp only [List.setIfInBounds_toArray]
          try simp only [List.set_cons_succ]
          try simp only [List.set_cons_zero]
          refine takeOp (i := 10) (v := ?_) (some 48) rfl rfl (by kernel_rfl) (by kernel_rfl) (by kernel_rfl) (fun _ _ _ h => h) (Or.inl ⟨by rfl, ?_⟩) (by assumption) ?_
          rotate_left 1
          · (intro w0 hSw; (try dsimp only at hSw); go_simp; try (with_reducible rfl))
          try simp only [Act.put]
          try simp only [List.setIfInBounds_toArray]
          try simp only [List.set_cons_succ]
          try simp only [List.set_cons_zero]
          refine takeOp (i := 11) (v := ?_) (some 49) rfl rfl (by kernel_rfl) (by kernel_rfl) (by kernel_rfl) (fun _ _ _ h => h) (Or.inl ⟨by rfl, ?_⟩) (by assumption) ?_
          rotate_left 1
          · (intro w0 hSw; (try dsimp only at hSw); go_simp; try (with_reducible rfl))
          try simp only [Act.put]
          try simp only [List.setIfInBounds_toArray]
          try simp only [List.set_cons_succ]
          try simp only [List.set_cons_zero]
          refine wpAnyH_done (by kernel_rfl) ?_ _
          go_wp2
          exact bodyPost_ret (v := .int .i64 5) (by simp [results, Tryz.results30, go_sem]) rfl ⟨by rw [HCF.out, HCE.out], HXW2.out.drew⟩
      · obtain rfl : k = ks.length := by omega
        have HCE : Hid (checkE ks x = 0) := by
          have h := HALL.out
          rw [List.take_of_length_le (by rw [List.length_map, HLL.out]; exact Nat.le_refl _), List.take_length] at h
          show _ = _
          unfold checkE
          rw [if_neg (by simpa using HLL.out), if_neg (by rw [HVV.out]; decide), if_pos h]
        go_wp2
        exact bodyPost_ret (v := .int .i64 0) (by simp [results, Tryz.results30, go_sem]) rfl ⟨by rw [HCF.out, HCE.out], HXW2.out⟩

end Go.Proofs.YtgaffbdcpkbdhaaGreat
end

section
/- Walks: slices.Grow of the nil slice of rows, slices.Concat of two lists of rows, relation's Delete. -/
namespace Go.Proofs.YtgaffbdcpkbdhaaGreat
open Go.RowKit Go.Sort

/-- append of n zero headers to the nil slice. -/
theorem appZ {w : World} {ops : Array Oper} {rest : List Oper} {o : Oper} {a : Act} {Q : Exit → Act → World → Prop} (hgd : o.guard = none) (s x : Operand)
    (ho : o.op = .call { callee := .builtin .append, args := #[s, x], argTypes := #[69, 3] })
    (n : Nat) (hs : a.eval s = .slice none 0 0) (hx : a.eval x = .int .i64 (n : Int)) (h0 : 0 < n) (hn : n ≤ 1000000)
    (h : ∀ G w', n ≤ G → G ≤ 9223372036854775807 → w'.ownsRow w.heap.size 59 1 (.slice (some ⟨w.heap.size, 0, none⟩) 0 G) 0 [] → Below w.heap.size w w' → wpList Tryz.prog ops Q rest (a.put o.dst (.slice (some ⟨w.heap.size, 0, none⟩) n G)) w') : wpList Tryz.prog ops Q (o :: rest) a w := by
  obtain ⟨i0, hi0, hz0, hz1, hz2⟩ := info_parts rowInfo
  have hold : (Builtin.firstCells i0.size 0 (.slice none 0 0)).run Tryz.prog w.drew = .ok ([] : List Value).toArray w.drew := run_firstCells_none w.drew i0.size 0 0 0
  have hrz := Lib.run_append_grow_zeros w 69 3 o.type 59 i0 _ .i64 .i64 Tryz.underlying69 Tryz.underlying3 hi0 hz0 none 0 0 [] hold n h0 (by rw [hz1]; omega) (by omega) (by omega) (by rw [hz2]; omega) (by rw [hz2]; exact growslice_fits (by omega) (by omega))
  rw [Nat.zero_add] at hrz
  have hGn : n ≤ grownCap w n 0 59 := grownCap_ge w _ _ _
  have hG63 : grownCap w n 0 59 ≤ maxLen := grownCap_le_maxLen w n 0 59 (by unfold maxLen; omega)
  refine wpList_plain hgd fun K hK => ?_
  unfold Oper.wp execOp
  simp only [ho, resolve, invoke, builtin, Sem.run_bind, Sem.run_pure, Result.andThen_ok, List.map_toArray, List.map_cons, List.map_nil, hs, hx, hrz]
  refine hK _ _ (h _ _ hGn (by unfold maxLen at hG63; omega) ?_ ((Below.refl _ w).drew.alloc (Nat.le_refl _) _))
  exact ⟨by simp, .inr ⟨w.heap.size, _, _, rfl, Nat.le_refl _, heap_alloc_new w.drew _, Nat.zero_le _, hG63, by simp [Builtin.zeroCells, Value.cells]; omega, by simp⟩⟩

set_option maxHeartbeats 1000000 in
set_option maxRecDepth 100000 in
theorem growRows_nil (n : Nat) (w : World) (hn : n ≤ 1000000) :
    Calls Tryz.prog 82 #[.slice none 0 0, .int .i64 n] w fun e w' => ∃ v, e = .returned v ∧ w'.ownsRow w.heap.size 59 1 v 0 [] ∧ Below w.heap.size w w' := by
  have h1 : ¬ ((n : Int) < 0) := by omega
  rcases Nat.eq_zero_or_pos n with h0 | h0
  · subst h0
    go_enter Tryz.func82, Tryz.ntmps82
    go_wp2
    go_ret
    exact ⟨_, rfl, own_nil _ _ _ _, Below.refl _ _⟩
  · go_enter Tryz.func82, Tryz.ntmps82
    go_wp2_with (at_builtin; refine appZ rfl (.tmp 20) (.tmp 21) rfl n rfl rfl h0 hn ?_; intro G w' hG1 hG2 hown hb; have HO := Lib.hid hown; have HB := Lib.hid hb; clear hown hb)
    go_ret
    exact ⟨_, rfl, HO.out, HB.out⟩

set_option maxHeartbeats 1000000 in
set_option maxRecDepth 100000 in
/-- slices.Concat of two lists of rows. -/
theorem concat2_any (P : Nat → Prop) (B cb : Nat) (A1 A2 : Option Addr) (c1 c2 : Nat) (X1 X2 : List RL.R) (w : World) (hrow : Row w cb 69 [.slice A1 X1.length c1, .slice A2 X2.length c2]) (h1 : SlRsP P B w A1 X1) (h2 : SlRsP P B w A2 X2) (hB : B ≤ w.heap.size) (hl1 : X1.length ≤ 100000) (hl2 : X2.length ≤ 100000) :
    Calls Tryz.prog 65 #[.slice (some ⟨cb, 0, none⟩) 2 2] w fun e w' => ∃ v hs, e = .returned v ∧ w'.ownsRow w.heap.size 59 1 v (X1.length + X2.length) hs ∧ Hdrs P B w' hs (X1 ++ X2) ∧ Below w.heap.size w w' := by
  have d0 : w.cell? ⟨cb, 0, none⟩ = some (.slice A1 X1.length c1) := hrow.cell 0
  have d1 : w.cell? ⟨cb, 1, none⟩ = some (.slice A2 X2.length c2) := hrow.cell 1
  have hzc := hrow.lt
  obtain ⟨h1s, hH1, hc1, hn1⟩ := h1.hdrs2
  obtain ⟨h2s, hH2, hc2, hn2⟩ := h2.hdrs2
  have HL1 := Lib.hid hH1.1
  have HL2 := Lib.hid hH2.1
  have HH1 := Lib.hid hH1
  have HH2 := Lib.hid hH2
  have HC1 := Lib.hid hc1
  have HC2 := Lib.hid hc2
  have HN1 := Lib.hid hn1
  have HN2 := Lib.hid hn2
  clear hH1 hH2 hc1 hc2 hn1 hn2 h1 h2 hrow
  generalize X1.length = l1 at *
  generalize X2.length = l2 at *
  go_enter Tryz.func65, Tryz.ntmps65
  go_wp2
  go_loopw [3, 11] (fun z i wr => wr = w ∧ (i = .int .i64 0 ∧ z = .int .i64 0 ∨ i = .int .i64 1 ∧ z = .int .i64 l1 ∨ i = .int .i64 2 ∧ z = .int .i64 ((l1 + l2 : Nat) : Int))) (fun _ i _ => 2 - (intOf i).toNat)
  case atStart => exact ⟨rfl, .inl ⟨rfl, rfl⟩⟩
  case round =>
    obtain ⟨hwr, hk⟩ := hrel
    obtain rfl := hwr.symm
    clear hwr
    rcases hk with ⟨rfl, rfl⟩ | ⟨rfl, rfl⟩ | ⟨rfl, rfl⟩
    · have g1 : ¬ (l1 : Int) < 0 := by omega
      go_wp2
      go_roundw
      case rel => simp
      case measure => simp [intOf]
    · have g1 : ¬ (l1 : Int) + (l2 : Int) < 0 := by omega
      go_wp2
      go_roundw
      case rel => simp
      case measure => simp [intOf]
    · have HGR := Lib.hid (growRows_nil (l1 + l2) w (by omega))
      go_wp2_with fail
      refine HGR.out.mono ?_
      rintro e w1 ⟨v1, rfl, hown1, hb1⟩
      have HO1 := Lib.hid hown1
      have HB1 := Lib.hid hb1
      clear hown1 hb1 HGR
      go_wp2
      go_loopw [6, 27] (fun v i wr => Below w.heap.size w wr ∧ (i = .int .i64 0 ∧ wr.ownsRow w.heap.size 59 1 v 0 [] ∨ i = .int .i64 1 ∧ wr.ownsRow w.heap.size 59 1 v l1 h1s ∨ i = .int .i64 2 ∧ wr.ownsRow w.heap.size 59 1 v (l1 + l2) (h1s ++ h2s))) (fun _ i _ => 2 - (intOf i).toNat)
      case atStart => exact ⟨HB1.out, .inl ⟨rfl, HO1.out⟩⟩
      case round =>
        obtain ⟨hbel, hk⟩ := hrel
        have HB := Lib.hid hbel
        have hzz := hbel.size
        have e0 := (hbel.cell (p := ⟨cb, 0, none⟩) hzc).trans d0
        have e1 := (hbel.cell (p := ⟨cb, 1, none⟩) hzc).trans d1
        clear hbel HB1 HO1
        rcases hk with ⟨rfl, ho⟩ | ⟨rfl, ho⟩ | ⟨rfl, ho⟩
        · have HO := Lib.hid ho
          clear ho
          go_wp2_with (at_builtin; refine appH rfl (.tmp 31) (.tmp 32) rfl w.heap.size u6 0 [] rfl HO.out A1 l1 c1 h1s HL1.out rfl (HC1.out _ (fun p hp _ => HB.out.cell (by omega))) HN1.out HH1.out.cells (by omega) hzz ?_
                       intro v3 w3 hown3 hg3 _
                       have HO3 := Lib.hid hown3
                       have HB3 := Lib.hid (Below.then HB.out (app_grown (B := w.heap.size) hg3 (fun g hk => own_base HO.out hk) hzz) (Nat.le_refl _))
                       clear hown3 hg3)
          go_roundw
          case rel =>
            refine ⟨HB3.out, .inr (.inl ⟨rfl, ?_⟩)⟩
            have h := HO3.out
            rw [Nat.zero_add, List.nil_append] at h
            exact h
          case measure => simp [intOf]
        · have HO := Lib.hid ho
          clear ho
          go_wp2_with (at_builtin; refine appH rfl (.tmp 31) (.tmp 32) rfl w.heap.size u6 l1 h1s rfl HO.out A2 l2 c2 h2s HL2.out rfl (HC2.out _ (fun p hp _ => HB.out.cell (by omega))) HN2.out HH2.out.cells (by omega) hzz ?_
                       intro v3 w3 hown3 hg3 _
                       have HO3 := Lib.hid hown3
                       have HB3 := Lib.hid (Below.then HB.out (app_grown (B := w.heap.size) hg3 (fun g hk => own_base HO.out hk) hzz) (Nat.le_refl _))
                       clear hown3 hg3)
          go_roundw
          case rel => exact ⟨HB3.out, .inr (.inr ⟨rfl, HO3.out⟩)⟩
          case measure => simp [intOf]
        · go_wp2
          go_ret
          exact ⟨_, _, rfl, ho, (HH1.out.keep (fun p hp _ => HB.out.cell (by omega))).append (HH2.out.keep (fun p hp _ => HB.out.cell (by omega))), HB.out⟩

/-- Without one place. -/
theorem del_at {X : List RL.R} (h : RL.SS X) {x : RL.R} (hm : x ∈ X) : RL.delF X x = X.take (RL.rank X x) ++ X.drop (RL.rank X x + 1) := by
  obtain ⟨hi, e⟩ := (RL.mem_iff_rank h x).1 hm
  have hsplit : X = X.take (RL.rank X x) ++ (X[RL.rank X x] :: X.drop (RL.rank X x + 1)) := by
    conv => lhs; rw [← List.take_append_drop (RL.rank X x) X, List.drop_eq_getElem_cons hi]
  unfold RL.delF
  conv => lhs; rw [hsplit]
  rw [List.filter_append, List.filter_cons_of_neg (by rw [e, RL.tot_cmpR.self]; simp)]
  congr 1
  · rw [List.filter_eq_self]
    intro y hy
    have := RL.lt_rank h x y hy
    simp
    omega
  · rw [List.filter_eq_self]
    intro y hy
    obtain ⟨j, hj, rfl⟩ := List.getElem_of_mem hy
    rw [List.getElem_drop]
    have hj' : RL.rank X x + 1 + j < X.length := by simp at hj; omega
    have := h.get (i := RL.rank X x) (j := RL.rank X x + 1 + j) (by omega) hj'
    rw [e, RL.tot_cmpR.sw X[RL.rank X x + 1 + j] x] at this
    simp
    omega
theorem del_none {X : List RL.R} {x : RL.R} (hm : x ∉ X) : RL.delF X x = X := by
  unfold RL.delF
  rw [List.filter_eq_self]
  intro y hy
  simp [RL.tot_cmpR.z]
  intro e; subst e; exact hm hy

end Go.Proofs.YtgaffbdcpkbdhaaGreat
end

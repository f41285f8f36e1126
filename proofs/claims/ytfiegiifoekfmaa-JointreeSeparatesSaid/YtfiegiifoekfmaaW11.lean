import Derived.Test.YtfiegiifoekfmaaW10
import Derived.Test.YtfiegiifoekfmaaJGyo
namespace Go.Proofs.Ytfiegiifoekfmaa
open Go.RowKit

abbrev SlB (B : Nat) (w : World) (A : Option Addr) (bs : List Bool) : Prop := Sl B w A (bs.map Value.bool)
theorem slB_at {B : Nat} {w : World} {A : Option Addr} {zs : List Bool} (h : SlB B w A zs) {i : Nat} (hi : i < zs.length) :
    ∃ b o, A = some ⟨b, o, none⟩ ∧ b < B ∧ w.cell? ⟨b, o + i, none⟩ = some (.bool zs[i]) := by
  obtain ⟨b, o, e, hb, hc⟩ := Sl.at_ h (k := i) (by simpa using hi)
  exact ⟨b, o, e, hb, by simpa using hc⟩

theorem below_set3 {w W : World} (h : Below w.heap.size w W) (a b c : Value) : Below w.heap.size w (((W.setCell ⟨w.heap.size, 0, none⟩ a).setCell ⟨w.heap.size, 1, none⟩ b).setCell ⟨w.heap.size, 2, none⟩ c) :=
  ((h.setCell (p := ⟨w.heap.size, 0, none⟩) (Nat.le_refl _) a).setCell (p := ⟨w.heap.size, 1, none⟩) (Nat.le_refl _) b).setCell (p := ⟨w.heap.size, 2, none⟩) (Nat.le_refl _) c

theorem bit_test (x v : Nat) (hx : x < 4294967296) : (bits .and .u32 ((x : Int) / 2 ^ v) 1 == 1) = JT.has x v := by
  have h1 : (x : Int) / 2 ^ v = ((x / 2 ^ v : Nat) : Int) := by simp
  have h2 : x / 2 ^ v ≤ x := Nat.div_le_self _ _
  rw [h1, show (1 : Int) = ((1 : Nat) : Int) from rfl, u32_and_nat _ 1 (by omega) (by omega), nat_mask1]
  unfold JT.has
  rw [Bool.eq_iff_iff, beq_iff_eq, beq_iff_eq]
  omega

/-- A step as a value. -/
abbrev stepV (e i v : Int) : Value := .agg #[.int .i64 e, .int .i64 i, .int .i64 v]
def AbsorbPost (R : List Nat) (rem : List Bool) (w : World) (r : Ending) (w' : World) : Prop :=
  ((∃ e i : Nat, JT.IsAbsorb R rem e i ∧ r = .returned (.tuple #[stepV e i (-1), .bool true])) ∨ (JT.NoAbsorb R rem ∧ r = .returned (.tuple #[stepV 0 0 0, .bool false]))) ∧ Below w.heap.size w w'

theorem absorbs_false1 (R : List Nat) (rem : List Bool) (e : Nat) : JT.absorbs R rem e e = false := by simp [JT.absorbs]
theorem absorbs_false2 {R : List Nat} {rem : List Bool} {e i : Nat} (h : rem[e]?.getD true = true) : JT.absorbs R rem e i = false := by simp [JT.absorbs, h]
theorem absorbs_false3 {R : List Nat} {rem : List Bool} {e i : Nat} (h : rem[i]?.getD true = true) : JT.absorbs R rem e i = false := by simp [JT.absorbs, h]
theorem absorbs_false4 {R : List Nat} {rem : List Bool} {e i : Nat} (h : JT.dif (R[e]?.getD 0) (R[i]?.getD 0) ≠ 0) : JT.absorbs R rem e i = false := by simp [JT.absorbs, h]
theorem absorbs_true {R : List Nat} {rem : List Bool} {e i : Nat} (h : e ≠ i) (h2 : rem[e]?.getD true = false) (h3 : rem[i]?.getD true = false) (h4 : JT.dif (R[e]?.getD 0) (R[i]?.getD 0) = 0) : JT.absorbs R rem e i = true := by simp [JT.absorbs, h, h2, h3, h4]

theorem lt_succ_all {p : Nat → Prop} {k : Nat} (h : ∀ i, i < k → p i) (hk : p k) : ∀ i, i < k + 1 → p i := fun i hi => by
  by_cases h1 : i < k
  · exact h i h1
  · obtain rfl : i = k := by omega
    exact hk

set_option maxHeartbeats 4000000 in
set_option maxRecDepth 100000 in
theorem absorb_any (RA BA : Option Addr) (RC BC : Nat) (R : List Nat) (rem : List Bool) (w : World)
   (hR : SlN .u32 w.heap.size w RA R) (hu : JT.U32 R) (hB : SlB w.heap.size w BA rem) (hl : rem.length = R.length) (hm : R.length ≤ 1000000) :
    Calls Try.prog 39 #[.slice RA R.length RC, .slice BA rem.length BC] w (AbsorbPost R rem w) := by
  have HU := Lib.hid hu
  have HL := Lib.hid hl
  have hbm : rem.length ≤ 1000000 := by omega
  have HR := Lib.hid hR
  have HB := Lib.hid hB
  have hbel : ∀ n o, Below w.heap.size w ((w.alloc o).drewN n) := fun n o => Below.drewN' ((Below.refl _ _).alloc (Nat.le_refl _) o) n
  have HBEL := Lib.hid hbel
  clear hR hB hu hl hbel
  go_enter Try.func39, Try.ntmps39
  go_wp2
  go_loopw [10] (fun x wr => ∃ e : Nat, e ≤ R.length ∧ x = .int .i64 e ∧ (∀ e', e' < e → ∀ i', i' < R.length → JT.absorbs R rem e' i' = false) ∧ ∃ n, wr = (w.alloc (.cells #[.int .i64 0, .int .i64 0, .int .i64 0] 62)).drewN n) (fun x _ => R.length - (intOf x).toNat)
  case atStart => exact ⟨0, Nat.zero_le _, rfl, by omega, 0, rfl⟩
  case round =>
    obtain ⟨e, he, rfl, hall, n, rfl⟩ := hrel
    have HA := Lib.hid hall
    clear hall
    by_cases hel : e < R.length
    · go_wp2
      go_loopw [15] (fun x wr => ∃ i : Nat, i ≤ R.length ∧ x = .int .i64 i ∧ (∀ i', i' < i → JT.absorbs R rem e i' = false) ∧ ∃ n, wr = (w.alloc (.cells #[.int .i64 0, .int .i64 0, .int .i64 0] 62)).drewN n) (fun x _ => R.length - (intOf x).toNat)
      case atStart => exact ⟨0, Nat.zero_le _, rfl, by omega, n, rfl⟩
      case round =>
        clear n
        obtain ⟨i, hi, rfl, hall, n, rfl⟩ := hrel
        have HI := Lib.hid hall
        clear hall
        by_cases hil : i < R.length
        · have hebl : e < rem.length := by have := HL.out; omega
          have hibl : i < rem.length := by have := HL.out; omega
          have hue := HU.out.get e
          have hui := HU.out.get i
          have hre : R[e]?.getD 0 = R[e] := by simp [hel]
          have hri : R[i]?.getD 0 = R[i] := by simp [hil]
          have hme : rem[e]?.getD true = rem[e] := by simp [hebl]
          have hmi : rem[i]?.getD true = rem[i] := by simp [hibl]
          obtain ⟨b, o, rfl, hb, hc1⟩ := slN_at HR.out hel
          obtain ⟨b', o', e', -, hc2⟩ := slN_at HR.out hil
          simp at e'
          obtain ⟨rfl, rfl⟩ := e'
          obtain ⟨b2, o2, rfl, hb2, hc3⟩ := slB_at HB.out hebl
          obtain ⟨b', o', e', -, hc4⟩ := slB_at HB.out hibl
          simp at e'
          obtain ⟨rfl, rfl⟩ := e'
          rw [hre] at hue
          rw [hri] at hui
          have HF1 := Lib.hid (absorbs_false1 R rem e)
          have HF2 : Hid (rem[e] = true → JT.absorbs R rem e i = false) := fun h => absorbs_false2 (by rw [hme]; exact h)
          have HF3 : Hid (rem[i] = true → JT.absorbs R rem e i = false) := fun h => absorbs_false3 (by rw [hmi]; exact h)
          have HF4 : Hid (JT.dif R[e] R[i] ≠ 0 → JT.absorbs R rem e i = false) := fun h => absorbs_false4 (by rw [hre, hri]; exact h)
          have HT : Hid (e ≠ i → rem[e] = false → rem[i] = false → JT.dif R[e] R[i] = 0 → JT.absorbs R rem e i = true) := fun h1 h2 h3 h4 => absorbs_true h1 (by rw [hme]; exact h2) (by rw [hmi]; exact h3) (by rw [hre, hri]; exact h4)
          clear hre hri hme hmi
          generalize R[e] = re at *
          generalize R[i] = ri at *
          generalize rem[e] = me at *
          generalize rem[i] = mi at *
          have hbits : bits .andNot .u32 (re : Int) (ri : Int) = (JT.dif re ri : Nat) := u32_andNot_nat re ri (by omega) (by omega)
          generalize JT.dif re ri = d at *
          by_cases hei : e = i
          · have hs : ((e : Int) != (i : Int)) = false := by simp [hei]
            have HF : Hid (JT.absorbs R rem e i = false) := by rw [← hei]; exact HF1.out
            clear hei
            go_wp2
            go_quiet (fail)
            go_wp2
            go_roundw
            case rel => exact ⟨i + 1, by omega, by go_num, lt_succ_all HI.out HF.out, _, rfl⟩
            case measure => simp [intOf]; omega
          have hs : ((e : Int) != (i : Int)) = true := by simp; omega
          cases me
          rotate_left
          · have HF := Lib.hid (HF2.out rfl)
            clear hei
            go_wp2
            go_quiet (fail)
            go_wp2
            go_roundw
            case rel => exact ⟨i + 1, by omega, by go_num, lt_succ_all HI.out HF.out, _, rfl⟩
            case measure => simp [intOf]; omega
          cases mi
          rotate_left
          · have HF := Lib.hid (HF3.out rfl)
            clear hei
            go_wp2
            go_quiet (fail)
            go_wp2
            go_roundw
            case rel => exact ⟨i + 1, by omega, by go_num, lt_succ_all HI.out HF.out, _, rfl⟩
            case measure => simp [intOf]; omega
          by_cases hd : d = 0
          · have HX : Hid (JT.IsAbsorb R rem e i) := ⟨hel, hil, HT.out hei rfl rfl hd, HI.out, HA.out⟩
            subst hd
            clear hei
            go_wp2
            go_quiet (fail)
            go_wp2
            refine bodyPost_ret (v := .tuple #[stepV e i (-1), .bool true]) (by simp [results, Try.results39, go_sem]) rfl ⟨.inl ⟨e, i, HX.out, rfl⟩, ?_⟩
            exact below_set3 (HBEL.out _ _) _ _ _
          · have HF := Lib.hid (HF4.out hd)
            have hs2 : ((d : Int) == 0) = false := by simp; omega
            clear hei hd
            go_wp2
            go_quiet (fail)
            go_wp2
            go_roundw
            case rel => exact ⟨i + 1, by omega, by go_num, lt_succ_all HI.out HF.out, _, rfl⟩
            case measure => simp [intOf]; omega
        · have HI' : Hid (∀ i', i' < R.length → JT.absorbs R rem e i' = false) := fun i' hi' => HI.out i' (by omega)
          go_wp2
          go_roundw
          case rel => exact ⟨e + 1, by omega, by go_num, lt_succ_all HA.out HI'.out, n, rfl⟩
          case measure => simp [intOf]; omega
    · have HN : Hid (JT.NoAbsorb R rem) := fun e' he' i' hi' => HA.out e' (by omega) i' hi'
      go_wp2
      refine bodyPost_ret (v := .tuple #[stepV 0 0 0, .bool false]) (by simp [results, Try.results39, go_sem]) rfl ⟨.inr ⟨HN.out, rfl⟩, ?_⟩
      exact below_set3 (HBEL.out _ _) _ _ _

def IsolatePost (n : Nat) (R : List Nat) (w : World) (r : Ending) (w' : World) : Prop :=
  ((∃ e v : Nat, v < n ∧ JT.vcnt R v R.length = 1 ∧ (∀ u, u < v → JT.vcnt R u R.length ≠ 1) ∧ e = JT.vlast R v R.length ∧ r = .returned (.tuple #[stepV e (-1) v, .bool true])) ∨ ((∀ v, v < n → JT.vcnt R v R.length ≠ 1) ∧ r = .returned (.tuple #[stepV 0 0 0, .bool false]))) ∧ Below w.heap.size w w'

set_option maxHeartbeats 4000000 in
set_option maxRecDepth 100000 in
theorem isolate_any (n : Nat) (RA : Option Addr) (RC : Nat) (R : List Nat) (w : World)
   (hR : SlN .u32 w.heap.size w RA R) (hu : JT.U32 R) (hm : R.length ≤ 1000000) (hn : n ≤ 32) :
    Calls Try.prog 40 #[.int .i64 n, .slice RA R.length RC] w (IsolatePost n R w) := by
  have HU := Lib.hid hu
  have HR := Lib.hid hR
  have HBEL : Hid (∀ o, Below w.heap.size w (w.alloc o)) := fun o => (Below.refl _ _).alloc (Nat.le_refl _) o
  clear hR hu
  go_enter Try.func40, Try.ntmps40
  go_wp2
  go_loop [11] (fun x => ∃ v : Nat, v ≤ n ∧ x = .int .i64 v ∧ (∀ u, u < v → JT.vcnt R u R.length ≠ 1)) (fun x => n - (intOf x).toNat)
  case atStart => exact ⟨0, Nat.zero_le _, rfl, by omega⟩
  case round =>
    obtain ⟨v, hv, rfl, hall⟩ := hrel
    have HA := Lib.hid hall
    clear hall
    by_cases hvl : v < n
    · go_wp2
      go_loop [7, 8, 16] (fun a b x => ∃ k : Nat, k ≤ R.length ∧ x = .int .i64 k ∧ a = .int .i64 (JT.vcnt R v k : Nat) ∧ b = .int .i64 (JT.vlast R v k : Nat)) (fun _ _ x => R.length - (intOf x).toNat)
      case atStart => exact ⟨0, Nat.zero_le _, rfl, rfl, rfl⟩
      case round =>
        obtain ⟨k, hk, rfl, rfl, rfl⟩ := hrel
        by_cases hkl : k < R.length
        · have hs1 : JT.vcnt R v (k + 1) = JT.vcnt R v k + if JT.has (R[k]?.getD 0) v then 1 else 0 := JT.nodesTo_succ R v k
          have hs2 : JT.vlast R v (k + 1) = if JT.has (R[k]?.getD 0) v then k else JT.vlast R v k := rfl
          have hle : JT.vcnt R v k ≤ k := JT.nodesTo_le R v k
          have hue := HU.out.get k
          have hre : R[k]?.getD 0 = R[k] := by simp [hkl]
          obtain ⟨b, o, rfl, hb, hc1⟩ := slN_at HR.out hkl
          rw [hre] at hs1 hs2 hue
          clear hre
          generalize R[k] = rk at *
          have HS1 := Lib.hid hs1
          have HS2 := Lib.hid hs2
          clear hs1 hs2
          generalize JT.vcnt R v k = ck at *
          generalize JT.vlast R v k = lk at *
          have hbit := bit_test rk v hue
          cases hh : JT.has rk v
          · rw [hh] at hbit
            have HH := Lib.hid hh
            clear hh
            go_wp2
            go_round
            case rel => exact ⟨k + 1, by omega, by go_num, by rw [HS1.out, HH.out]; rfl, by rw [HS2.out, HH.out]; rfl⟩
            case measure => simp [intOf]; omega
          · rw [hh] at hbit
            have HH := Lib.hid hh
            clear hh
            go_wp2
            go_round
            case rel => exact ⟨k + 1, by omega, by go_num, by rw [HS1.out, HH.out]; go_num, by rw [HS2.out, HH.out]; rfl⟩
            case measure => simp [intOf]; omega
        · obtain rfl : k = R.length := by omega
          have hle : JT.vcnt R v R.length ≤ R.length := JT.nodesTo_le R v _
          by_cases h1 : JT.vcnt R v R.length = 1
          · have H1 := Lib.hid h1
            rw [h1]
            clear h1 hle
            generalize hlk : JT.vlast R v R.length = lk at *
            have HLK := Lib.hid hlk
            clear hlk
            go_wp2
            refine bodyPost_ret (v := .tuple #[stepV lk (-1) v, .bool true]) (by simp [results, Try.results40, go_sem]) rfl ⟨.inl ⟨lk, v, hvl, H1.out, HA.out, HLK.out.symm, rfl⟩, ?_⟩
            exact HBEL.out _
          · have H1 := Lib.hid h1
            generalize JT.vlast R v R.length = lk at *
            have hs : ((JT.vcnt R v R.length : Int) == 1) = false := by simp; omega
            clear h1
            generalize JT.vcnt R v R.length = ck at hs hle ⊢
            go_wp2
            go_round
            case rel => exact ⟨v + 1, by omega, by go_num, lt_succ_all HA.out H1.out⟩
            case measure => simp [intOf]; omega
    · have HN : Hid (∀ u, u < n → JT.vcnt R u R.length ≠ 1) := fun u hu => HA.out u (by omega)
      go_wp2
      refine bodyPost_ret (v := .tuple #[stepV 0 0 0, .bool false]) (by simp [results, Try.results40, go_sem]) rfl ⟨.inr ⟨HN.out, rfl⟩, ?_⟩
      exact HBEL.out _

end Go.Proofs.Ytfiegiifoekfmaa

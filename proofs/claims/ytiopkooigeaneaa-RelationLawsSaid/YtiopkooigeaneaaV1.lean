/- Walks: value.Valid, value.Compare, value.Holds and their like in the reference (ordinalref01). -/
import Derived.Test.YtiopkooigeaneaaE0
import Derived.Test.YtiopkooigeaneaaShelf
namespace Go.Proofs.Ytiopkooigeaneaa
open Go.RowKit Go.Sort

theorem cmpInt_any (x y : Int) (w : World) : Calls Try.prog 84 #[.int .i64 x, .int .i64 y] w fun e w' => e = .returned (.int .i64 (RL.cmpI x y)) ∧ w' = w := by
  have h := Any.cmp_Compare_int lCmpInt x y w
  refine Calls.mono h fun e w' ⟨h1, h2⟩ => ⟨?_, h2⟩
  rw [h1]
  rfl

theorem nanInt64_any (x : Int) (w : World) : Calls Try.prog 92 #[.int .i64 x] w fun e w' => e = .returned (.bool false) ∧ w' = w := by
  go_enter Try.func92, Try.ntmps92
  go_wp2
  go_ret
  exact ⟨by simp, rfl⟩

theorem cmpInt64_any (x y : Int) (w : World) : Calls Try.prog 85 #[.int .i64 x, .int .i64 y] w fun e w' => e = .returned (.int .i64 (RL.cmpI x y)) ∧ w' = w := by
  by_cases h : x < y
  · have hr : RL.cmpI x y = -1 := by simp [RL.cmpI, h]
    rw [hr]
    clear hr
    go_enter Try.func85, Try.ntmps85
    go_wp2_with (go_at_call 92; refine (nanInt64_any _ _).mono ?_; rintro e w' ⟨rfl, rfl⟩)
    go_ret
    exact ⟨rfl, rfl⟩
  · by_cases h2 : y < x
    · have hr : RL.cmpI x y = 1 := by simp [RL.cmpI, h, h2]
      rw [hr]
      clear hr
      go_enter Try.func85, Try.ntmps85
      go_wp2_with (go_at_call 92; refine (nanInt64_any _ _).mono ?_; rintro e w' ⟨rfl, rfl⟩)
      go_ret
      exact ⟨rfl, rfl⟩
    · have hr : RL.cmpI x y = 0 := by simp [RL.cmpI, h, h2]
      rw [hr]
      clear hr
      go_enter Try.func85, Try.ntmps85
      go_wp2_with (go_at_call 92; refine (nanInt64_any _ _).mono ?_; rintro e w' ⟨rfl, rfl⟩)
      go_ret
      exact ⟨rfl, rfl⟩

theorem strCompare_any (a b : ByteArray) (w : World) : Calls Try.prog 86 #[.string a, .string b] w fun e w' => e = .returned (.int .i64 (RL.cmpS a b)) ∧ w' = w :=
  Any.strings_Compare lStrCmp a b w

/-- value.Compare. -/
theorem vCompare_any (a b : RL.V) (w : World) : Calls Try.prog 69 #[vv a, vv b] w fun e w' => e = .returned (.int .i64 (RL.cmpV a b)) ∧ Ext w w' := by
  obtain ⟨k, i, s⟩ := a
  obtain ⟨k', i', s'⟩ := b
  show Calls Try.prog 69 #[.agg #[.int .i64 k, .int .i64 i, .string s], .agg #[.int .i64 k', .int .i64 i', .string s']] w _
  have hE : ∀ o1 o2 : Obj, Ext w ((w.alloc o1).alloc o2) := fun o1 o2 => ((Ext.refl w).alloc o1).alloc o2
  by_cases h1 : k = k'
  · by_cases h2 : i = i'
    · rw [RL.cmpV_str (a := ⟨k, i, s⟩) (b := ⟨k', i', s'⟩) h1 h2]
      have d1 : (k != k') = false := by simp [h1]
      have d2 : (i != i') = false := by simp [h2]
      clear h1 h2
      go_enter Try.func69, Try.ntmps69
      go_wp2_with (go_at_call 86; refine (strCompare_any _ _ _).mono ?_; rintro e w' ⟨rfl, rfl⟩)
      go_ret
      exact ⟨rfl, hE _ _⟩
    · rw [RL.cmpV_int (a := ⟨k, i, s⟩) (b := ⟨k', i', s'⟩) h1 h2]
      have d1 : (k != k') = false := by simp [h1]
      have d2 : (i != i') = true := by simp [h2]
      clear h1 h2
      go_enter Try.func69, Try.ntmps69
      go_wp2_with (go_at_call 85; refine (cmpInt64_any _ _ _).mono ?_; rintro e w' ⟨rfl, rfl⟩)
      go_ret
      exact ⟨rfl, hE _ _⟩
  · rw [RL.cmpV_kind (a := ⟨k, i, s⟩) (b := ⟨k', i', s'⟩) h1]
    have d1 : (k != k') = true := by simp [h1]
    clear h1
    go_enter Try.func69, Try.ntmps69
    go_wp2_with (go_at_call 84; refine (cmpInt_any _ _ _).mono ?_; rintro e w' ⟨rfl, rfl⟩)
    go_ret
    exact ⟨rfl, hE _ _⟩

theorem loop_ne (bs : ByteArray) (i : Nat) (r : List UInt8) (h : r ≠ [] ∨ i < bs.size) : ByteArray.toList.loop bs i r ≠ [] := by
  rw [ByteArray.toList.loop]
  split
  · exact loop_ne bs (i + 1) _ (.inl (by simp))
  · rename_i h2
    rcases h with h | h
    · simpa using h
    · exact absurd h h2
  termination_by bs.size - i
theorem str_empty (s : ByteArray) : s.toList.isEmpty = decide (s.size = 0) := by
  rw [Bool.eq_iff_iff, List.isEmpty_iff, decide_eq_true_eq]
  constructor
  · intro h
    refine Classical.byContradiction fun h2 => ?_
    exact loop_ne s 0 [] (.inr (by omega)) h
  · intro h
    unfold ByteArray.toList
    rw [ByteArray.toList.loop, if_neg (by omega)]; rfl
theorem str_le24 (s : ByteArray) : decide ((s.size : Int) ≤ 24) = decide (s.size ≤ 24) := by
  rw [Bool.eq_iff_iff]; simp; omega

/-- value.Valid. -/
theorem vValid_any (a : RL.V) (w : World) (hs : a.str.size ≤ 9223372036854775807) : Calls Try.prog 82 #[vv a] w fun e w' => e = .returned (.bool (RL.validV a)) ∧ Ext w w' := by
  obtain ⟨k, i, s⟩ := a
  show Calls Try.prog 82 #[.agg #[.int .i64 k, .int .i64 i, .string s]] w _
  have hE : ∀ o1 : Obj, Ext w (w.alloc o1) := fun o1 => (Ext.refl w).alloc o1
  simp only at hs
  by_cases h1 : k = 1
  · subst h1
    have hv : RL.validV ⟨1, i, s⟩ = decide (s.size = 0) := by simp [RL.validV]
    rw [hv]
    go_enter Try.func82, Try.ntmps82
    go_wp2
    go_ret
    exact ⟨ret_bool (str_empty s), hE _⟩
  · have hk1 : (k == 1) = false := by simpa using h1
    by_cases h2 : k = 2
    · subst h2
      by_cases h3 : i = 0
      · subst h3
        have hv : RL.validV ⟨2, 0, s⟩ = decide (s.size ≤ 24) := by simp [RL.validV]
        rw [hv]
        clear hv
        go_enter Try.func82, Try.ntmps82
        go_wp2
        go_ret
        exact ⟨ret_bool (str_le24 s), hE _⟩
      · have hv : RL.validV ⟨2, i, s⟩ = false := by simp [RL.validV, h3]
        have hi0 : (i == 0) = false := by simpa using h3
        rw [hv]
        clear hv
        go_enter Try.func82, Try.ntmps82
        go_wp2
        go_ret
        exact ⟨rfl, hE _⟩
    · have hv : RL.validV ⟨k, i, s⟩ = false := by simp [RL.validV, h1, h2]
      have hk2 : (k == 2) = false := by simpa using h2
      rw [hv]
      clear hv
      go_enter Try.func82, Try.ntmps82
      go_wp2
      go_ret
      exact ⟨rfl, hE _⟩

/-- ordinalref01.Valid. -/
theorem r1Valid_any (a : RL.V) (w : World) (hs : a.str.size ≤ 9223372036854775807) : Calls Try.prog 36 #[vv a] w fun e w' => e = .returned (.bool (RL.validV a)) ∧ Ext w w' := by
  obtain ⟨k, i, s⟩ := a
  show Calls Try.prog 36 #[.agg #[.int .i64 k, .int .i64 i, .string s]] w _
  have hE : ∀ o1 : Obj, Ext w (w.alloc o1) := fun o1 => (Ext.refl w).alloc o1
  simp only at hs
  by_cases h1 : k = 1
  · subst h1
    have hv : RL.validV ⟨1, i, s⟩ = decide (s.size = 0) := by simp [RL.validV]
    rw [hv, ← str_empty]
    clear hv
    cases he : s.toList.isEmpty
    all_goals
      go_enter Try.func36, Try.ntmps36
      go_wp2
      go_ret
      exact ⟨rfl, hE _⟩
  · have hk1 : (k == 1) = false := by simpa using h1
    by_cases h2 : k = 2
    · subst h2
      by_cases h3 : i = 0
      · subst h3
        have hv : RL.validV ⟨2, 0, s⟩ = decide (s.size ≤ 24) := by simp [RL.validV]
        rw [hv]
        clear hv
        go_enter Try.func36, Try.ntmps36
        go_wp2
        go_ret
        exact ⟨ret_bool (str_le24 s), hE _⟩
      · have hv : RL.validV ⟨2, i, s⟩ = false := by simp [RL.validV, h3]
        have hi0 : (i == 0) = false := by simpa using h3
        rw [hv]
        clear hv
        go_enter Try.func36, Try.ntmps36
        go_wp2
        go_ret
        exact ⟨rfl, hE _⟩
    · have hv : RL.validV ⟨k, i, s⟩ = false := by simp [RL.validV, h1, h2]
      have hk2 : (k == 2) = false := by simpa using h2
      rw [hv]
      clear hv
      go_enter Try.func36, Try.ntmps36
      go_wp2
      go_ret
      exact ⟨rfl, hE _⟩

/-- What ordinalref01.compare computes. -/
def diffAt : List UInt8 → List UInt8 → Int
  | [], [] => 0
  | [], y => -(y.length : Int)
  | x, [] => x.length
  | a :: x, b :: y => if a < b then -1 else if b < a then 1 else diffAt x y
theorem diffAt_sign : ∀ x y : List UInt8, (diffAt x y < 0 ↔ Lib.compareBytes x y < 0) ∧ (0 < diffAt x y ↔ 0 < Lib.compareBytes x y)
  | [], [] => by simp [diffAt, Lib.compareBytes]
  | [], b :: y => by simp [diffAt, Lib.compareBytes]; omega
  | a :: x, [] => by simp [diffAt, Lib.compareBytes]; omega
  | a :: x, b :: y => by
    simp only [diffAt, Lib.compareBytes]
    split
    · simp
    · split
      · simp
      · exact diffAt_sign x y
theorem diffAt_bound : ∀ x y : List UInt8, -(y.length : Int) - 1 ≤ diffAt x y ∧ diffAt x y ≤ (x.length : Int) + 1
  | [], [] => by simp [diffAt]
  | [], b :: y => by simp [diffAt]; omega
  | a :: x, [] => by simp [diffAt]; omega
  | a :: x, b :: y => by
    have := diffAt_bound x y
    simp only [diffAt, List.length_cons]
    split
    · omega
    · split <;> omega
theorem drop_cons (s : ByteArray) (k : Nat) (h : k < s.size) : s.data.toList.drop k = s[k] :: s.data.toList.drop (k + 1) := by
  rw [List.drop_eq_getElem_cons (by simpa using h)]; rfl
theorem diffAt_end {x y : List UInt8} (h : x = [] ∨ y = []) : diffAt x y = (x.length : Int) - y.length := by
  rcases h with rfl | rfl
  · cases y <;> simp [diffAt]
  · cases x <;> simp [diffAt]

set_option maxHeartbeats 400000 in
theorem r1compare_any (a b : ByteArray) (w : World) (ha : a.size ≤ 1000000000) (hb : b.size ≤ 1000000000) : Calls Try.prog 83 #[.string a, .string b] w fun e w' => e = .returned (.int .i64 (diffAt a.data.toList b.data.toList)) ∧ Ext w w' := by
  go_enter Try.func83, Try.ntmps83
  go_wp2
  go_loopw [5] (fun i wr => ∃ k : Nat, k ≤ a.size ∧ k ≤ b.size ∧ i = .int .i64 k ∧ diffAt a.data.toList b.data.toList = diffAt (a.data.toList.drop k) (b.data.toList.drop k) ∧ ∃ n, wr = w.drewN n) (fun i _ => a.size - (intOf i).toNat)
  case atStart => exact ⟨0, Nat.zero_le _, Nat.zero_le _, rfl, by simp, 0, rfl⟩
  case round =>
    obtain ⟨k, hka, hkb, rfl, hd, n, rfl⟩ := hrel
    have HD := Lib.hid hd
    clear hd
    by_cases h1 : k < a.size
    · by_cases h2 : k < b.size
      · have hda := drop_cons a k h1
        have hdb := drop_cons b k h2
        have HC : Hid (diffAt a.data.toList b.data.toList = if a[k] < b[k] then -1 else if b[k] < a[k] then 1 else diffAt (a.data.toList.drop (k + 1)) (b.data.toList.drop (k + 1))) := by
          show _ = _
          rw [HD.out, hda, hdb]; rfl
        clear hda hdb
        go_wp2
        go_quiet (fail)
        go_wp2
        · have hlt : a[k].toNat < b[k].toNat := by assumption
          have hr : diffAt a.data.toList b.data.toList = -1 := by rw [HC.out, if_pos (UInt8.lt_iff_toNat_lt.2 hlt)]
          have HR := Lib.hid hr
          clear hr
          go_ret
          exact ⟨ret_int HR.out.symm, ((Ext.refl _).drewN _).drewN _⟩
        · have hnlt : ¬ a[k].toNat < b[k].toNat := by assumption
          go_quiet (fail)
          go_wp2
          · have hlt : b[k].toNat < a[k].toNat := by assumption
            have hr : diffAt a.data.toList b.data.toList = 1 := by rw [HC.out, if_neg (fun h => hnlt (UInt8.lt_iff_toNat_lt.1 h)), if_pos (UInt8.lt_iff_toNat_lt.2 hlt)]
            have HR := Lib.hid hr
            clear hr
            go_ret
            exact ⟨ret_int HR.out.symm, (((Ext.refl _).drewN _).drewN _).drewN _⟩
          · have hnlt2 : ¬ b[k].toNat < a[k].toNat := by assumption
            have hr : diffAt a.data.toList b.data.toList = diffAt (a.data.toList.drop (k + 1)) (b.data.toList.drop (k + 1)) := by rw [HC.out, if_neg (fun h => hnlt (UInt8.lt_iff_toNat_lt.1 h)), if_neg (fun h => hnlt2 (UInt8.lt_iff_toNat_lt.1 h))]
            have HR := Lib.hid hr
            clear hr
            go_roundw
            case rel => exact ⟨k + 1, by omega, by omega, by go_num, HR.out, _, rfl⟩
            case measure => simp [intOf]; omega
      · have hr : diffAt a.data.toList b.data.toList = (a.size : Int) - b.size := by
          rw [HD.out, diffAt_end (.inr (by simp; omega))]; simp; omega
        have HR := Lib.hid hr
        clear hr
        go_wp2
        go_ret
        exact ⟨ret_int HR.out.symm, (Ext.refl _).drewN _⟩
    · have hr : diffAt a.data.toList b.data.toList = (a.size : Int) - b.size := by
        rw [HD.out, diffAt_end (.inl (by simp; omega))]; simp; omega
      have HR := Lib.hid hr
      clear hr
      go_wp2
      go_ret
      exact ⟨ret_int HR.out.symm, (Ext.refl _).drewN _⟩

/-- ordinalref01.Compare. -/
theorem r1Compare_any (a b : RL.V) (w : World) (ha : a.str.size ≤ 1000000000) (hb : b.str.size ≤ 1000000000) : Calls Try.prog 67 #[vv a, vv b] w fun e w' => e = .returned (.int .i64 (RL.cmpV a b)) ∧ Ext w w' := by
  obtain ⟨k, i, s⟩ := a
  obtain ⟨k', i', s'⟩ := b
  show Calls Try.prog 67 #[.agg #[.int .i64 k, .int .i64 i, .string s], .agg #[.int .i64 k', .int .i64 i', .string s']] w _
  simp only at ha hb
  have hE : ∀ o1 o2 : Obj, Ext w ((w.alloc o1).alloc o2) := fun o1 o2 => ((Ext.refl w).alloc o1).alloc o2
  have HE := Lib.hid hE
  clear hE
  by_cases h1 : k = k'
  · by_cases h2 : i = i'
    · rw [RL.cmpV_str (a := ⟨k, i, s⟩) (b := ⟨k', i', s'⟩) h1 h2]
      simp only
      have d1 : (k != k') = false := by simp [h1]
      have d2 : (i != i') = false := by simp [h2]
      clear h1 h2
      obtain ⟨hs1, hs2⟩ := diffAt_sign s.data.toList s'.data.toList
      have hrg := RL.tot_cmpS.rg s s'
      have hc : ∀ W, Calls Try.prog 83 #[.string s, .string s'] W fun e w' => e = .returned (.int .i64 (diffAt s.data.toList s'.data.toList)) ∧ Ext W w' := fun W => r1compare_any s s' W ha hb
      generalize hdd : diffAt s.data.toList s'.data.toList = d at *
      have e1 : Lib.compareBytes s.data.toList s'.data.toList = RL.cmpS s s' := rfl
      rw [e1] at hs1 hs2
      generalize RL.cmpS s s' = c at *
      have HC := Lib.hid hc
      clear hc e1 hdd
      by_cases g1 : d < 0
      · obtain rfl : c = -1 := by omega
        clear hs1 hs2 hrg
        go_enter Try.func67, Try.ntmps67
        go_wp2_with (go_at_call 83; refine (HC.out _).mono ?_; rintro e w' ⟨rfl, hx⟩)
        go_ret
        exact ⟨rfl, (HE.out _ _).trans hx⟩
      · by_cases g2 : 0 < d
        · obtain rfl : c = 1 := by omega
          clear hs1 hs2 hrg
          go_enter Try.func67, Try.ntmps67
          go_wp2_with (go_at_call 83; refine (HC.out _).mono ?_; rintro e w' ⟨rfl, hx⟩)
          go_ret
          exact ⟨rfl, (HE.out _ _).trans hx⟩
        · obtain rfl : c = 0 := by omega
          clear hs1 hs2 hrg
          go_enter Try.func67, Try.ntmps67
          go_wp2_with (go_at_call 83; refine (HC.out _).mono ?_; rintro e w' ⟨rfl, hx⟩)
          go_ret
          exact ⟨rfl, (HE.out _ _).trans hx⟩
    · rw [RL.cmpV_int (a := ⟨k, i, s⟩) (b := ⟨k', i', s'⟩) h1 h2]
      simp only
      have d1 : (k != k') = false := by simp [h1]
      have d2 : (i != i') = true := by simp [h2]
      clear h1
      by_cases g : i < i'
      · have hr : RL.cmpI i i' = -1 := by simp [RL.cmpI, g]
        rw [hr]
        clear hr h2
        go_enter Try.func67, Try.ntmps67
        go_wp2
        go_ret
        exact ⟨rfl, HE.out _ _⟩
      · have hr : RL.cmpI i i' = 1 := by simp [RL.cmpI, g]; omega
        rw [hr]
        clear hr h2
        go_enter Try.func67, Try.ntmps67
        go_wp2
        go_ret
        exact ⟨rfl, HE.out _ _⟩
  · rw [RL.cmpV_kind (a := ⟨k, i, s⟩) (b := ⟨k', i', s'⟩) h1]
    simp only
    have d1 : (k != k') = true := by simp [h1]
    by_cases g : k < k'
    · have hr : RL.cmpI k k' = -1 := by simp [RL.cmpI, g]
      rw [hr]
      clear hr h1
      go_enter Try.func67, Try.ntmps67
      go_wp2
      go_ret
      exact ⟨rfl, HE.out _ _⟩
    · have hr : RL.cmpI k k' = 1 := by simp [RL.cmpI, g]; omega
      rw [hr]
      clear hr h1
      go_enter Try.func67, Try.ntmps67
      go_wp2
      go_ret
      exact ⟨rfl, HE.out _ _⟩

/-- ordinalref01.Holds. -/
theorem r1Holds_any (a b : RL.V) (op : Int) (w : World) (ha : a.str.size ≤ 1000000000) (hb : b.str.size ≤ 1000000000) : Calls Try.prog 70 #[vv a, .int .i64 op, vv b] w fun e w' => e = .returned (.bool (RL.holdsF op (RL.cmpV a b))) ∧ Ext w w' := by
  have hc : ∀ W, Calls Try.prog 67 #[vv a, vv b] W fun e w' => e = .returned (.int .i64 (RL.cmpV a b)) ∧ Ext W w' := fun W => r1Compare_any a b W ha hb
  have HC := Lib.hid hc
  have HE : Hid (∀ o1 o2 : Obj, Ext w ((w.alloc o1).alloc o2)) := fun o1 o2 => ((Ext.refl w).alloc o1).alloc o2
  clear hc ha hb
  generalize RL.cmpV a b = c at *
  by_cases h0 : op = 0
  · subst h0
    go_enter Try.func70, Try.ntmps70
    go_wp2_with (go_at_call 67; refine (HC.out _).mono ?_; rintro e w' ⟨rfl, hx⟩)
    go_ret
    exact ⟨rfl, (HE.out _ _).trans hx⟩
  have d0 : (op == 0) = false := by simpa using h0
  by_cases h1 : op = 1
  · subst h1
    go_enter Try.func70, Try.ntmps70
    go_wp2_with (go_at_call 67; refine (HC.out _).mono ?_; rintro e w' ⟨rfl, hx⟩)
    go_ret
    exact ⟨rfl, (HE.out _ _).trans hx⟩
  have d1 : (op == 1) = false := by simpa using h1
  by_cases h2 : op = 2
  · subst h2
    go_enter Try.func70, Try.ntmps70
    go_wp2_with (go_at_call 67; refine (HC.out _).mono ?_; rintro e w' ⟨rfl, hx⟩)
    go_ret
    exact ⟨rfl, (HE.out _ _).trans hx⟩
  have d2 : (op == 2) = false := by simpa using h2
  by_cases h3 : op = 3
  · subst h3
    go_enter Try.func70, Try.ntmps70
    go_wp2_with (go_at_call 67; refine (HC.out _).mono ?_; rintro e w' ⟨rfl, hx⟩)
    go_ret
    exact ⟨rfl, (HE.out _ _).trans hx⟩
  have d3 : (op == 3) = false := by simpa using h3
  by_cases h4 : op = 4
  · subst h4
    go_enter Try.func70, Try.ntmps70
    go_wp2_with (go_at_call 67; refine (HC.out _).mono ?_; rintro e w' ⟨rfl, hx⟩)
    go_ret
    exact ⟨rfl, (HE.out _ _).trans hx⟩
  have d4 : (op == 4) = false := by simpa using h4
  have HH : Hid (RL.holdsF op c = decide (0 ≤ c)) := by
    show _ = _
    unfold RL.holdsF
    rw [if_neg h0, if_neg h1, if_neg h2, if_neg h3, if_neg h4]
  clear h0 h1 h2 h3 h4
  go_enter Try.func70, Try.ntmps70
  go_wp2_with (go_at_call 67; refine (HC.out _).mono ?_; rintro e w' ⟨rfl, hx⟩)
  go_ret
  exact ⟨ret_bool HH.out.symm, (HE.out _ _).trans hx⟩

/-- value.Holds: the operator is not known. -/
theorem vHolds_kind (a b : RL.V) (op : Int) (w : World) (h : op < 0 ∨ 5 < op) : Calls Try.prog 64 #[vv a, .int .i64 op, vv b] w fun e w' => e = .returned (.tuple #[.bool false, .int .i64 2]) ∧ Ext w w' := by
  have HE : Hid (∀ o1 o2 : Obj, Ext w ((w.alloc o1).alloc o2)) := fun o1 o2 => ((Ext.refl w).alloc o1).alloc o2
  rcases h with h | h
  · go_enter Try.func64, Try.ntmps64
    go_wp2
    go_ret2
    exact ⟨rfl, HE.out _ _⟩
  · have h' : ¬ op < 0 := by omega
    go_enter Try.func64, Try.ntmps64
    go_wp2
    go_ret2
    exact ⟨rfl, HE.out _ _⟩

/-- value.Holds: a value is not valid. -/
theorem vHolds_value (a b : RL.V) (op : Int) (w : World) (h0 : 0 ≤ op) (h5 : op ≤ 5) (ha : a.str.size ≤ 9223372036854775807) (hb : b.str.size ≤ 9223372036854775807) (hv : (RL.validV a && RL.validV b) = false) : Calls Try.prog 64 #[vv a, .int .i64 op, vv b] w fun e w' => e = .returned (.tuple #[.bool false, .int .i64 4]) ∧ Ext w w' := by
  have HE : Hid (∀ o1 o2 : Obj, Ext w ((w.alloc o1).alloc o2)) := fun o1 o2 => ((Ext.refl w).alloc o1).alloc o2
  have HA : Hid (∀ W, Calls Try.prog 82 #[vv a] W fun e w' => e = .returned (.bool (RL.validV a)) ∧ Ext W w') := fun W => vValid_any a W ha
  have HB : Hid (∀ W, Calls Try.prog 82 #[vv b] W fun e w' => e = .returned (.bool (RL.validV b)) ∧ Ext W w') := fun W => vValid_any b W hb
  have n0 : ¬ op < 0 := by omega
  have n5 : ¬ 5 < op := by omega
  cases hva : RL.validV a
  · rw [hva] at HA
    clear hv hva HB
    go_enter Try.func64, Try.ntmps64
    go_wp2_with (go_at_call 82; refine (HA.out _).mono ?_; rintro e w' ⟨rfl, hx⟩)
    go_ret2
    exact ⟨rfl, (HE.out _ _).trans hx⟩
  · rw [hva] at HA hv
    simp only [Bool.true_and] at hv
    rw [hv] at HB
    clear hv hva
    go_enter Try.func64, Try.ntmps64
    go_wp2_with fail
    refine (HA.out _).mono ?_
    rintro e w1 ⟨rfl, hx⟩
    have hc := fun (b o : Nat) (hb : b < w.heap.size + 1 + 1) => hx.cell (b := b) (o := o) (by simpa using hb)
    have c0 := hc (w.heap.size + 1) 0 (by omega)
    have c1 := hc (w.heap.size + 1) 1 (by omega)
    have c2 := hc (w.heap.size + 1) 2 (by omega)
    clear hc
    go_wp2_with fail
    refine (HB.out _).mono ?_
    rintro e w2 ⟨rfl, hx2⟩
    clear c0 c1 c2
    go_wp2
    go_ret2
    exact ⟨rfl, ((HE.out _ _).trans hx).trans hx2⟩

end Go.Proofs.Ytiopkooigeaneaa

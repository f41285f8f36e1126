/- Walks: value.Holds of valid values; rows: Valid, CompareBy, Compare, Equal. -/
import Derived.Test.YtiopkooigeaneaaV1
namespace Go.Proofs.Ytiopkooigeaneaa
open Go.RowKit Go.Sort

theorem vHolds_ok0 (a b : RL.V) (w : World) (ha : a.str.size ≤ 9223372036854775807) (hb : b.str.size ≤ 9223372036854775807) (hva : RL.validV a = true) (hvb : RL.validV b = true) : Calls Try.prog 64 #[vv a, .int .i64 0, vv b] w fun e w' => e = .returned (.tuple #[.bool (RL.holdsF 0 (RL.cmpV a b)), .int .i64 0]) ∧ Ext w w' := by
  have HE : Hid (∀ o1 o2 : Obj, Ext w ((w.alloc o1).alloc o2)) := fun o1 o2 => ((Ext.refl w).alloc o1).alloc o2
  have HA : Hid (∀ W, Calls Try.prog 82 #[vv a] W fun e w' => e = .returned (.bool true) ∧ Ext W w') := fun W => by rw [← hva]; exact vValid_any a W ha
  have HB : Hid (∀ W, Calls Try.prog 82 #[vv b] W fun e w' => e = .returned (.bool true) ∧ Ext W w') := fun W => by rw [← hvb]; exact vValid_any b W hb
  have HC : Hid (∀ W, Calls Try.prog 69 #[vv a, vv b] W fun e w' => e = .returned (.int .i64 (RL.cmpV a b)) ∧ Ext W w') := fun W => vCompare_any a b W
  clear hva hvb
  generalize RL.cmpV a b = c at *
  go_enter Try.func64, Try.ntmps64
  go_wp2_with fail
  refine (HA.out _).mono ?_
  rintro e w1 ⟨rfl, hx⟩
  obtain ⟨hc, hf⟩ := hx.rules
  go_wp2_with fail
  refine (HB.out _).mono ?_
  rintro e w2 ⟨rfl, hx2⟩
  obtain ⟨hc, hf⟩ := (hx.trans hx2).rules
  go_wp2_with fail
  refine (HC.out _).mono ?_
  rintro e w3 ⟨rfl, hx3⟩
  clear hc hf
  go_wp2
  go_ret2
  exact ⟨rfl, (((HE.out _ _).trans hx).trans hx2).trans hx3⟩

theorem vHolds_ok1 (a b : RL.V) (w : World) (ha : a.str.size ≤ 9223372036854775807) (hb : b.str.size ≤ 9223372036854775807) (hva : RL.validV a = true) (hvb : RL.validV b = true) : Calls Try.prog 64 #[vv a, .int .i64 1, vv b] w fun e w' => e = .returned (.tuple #[.bool (RL.holdsF 1 (RL.cmpV a b)), .int .i64 0]) ∧ Ext w w' := by
  have HE : Hid (∀ o1 o2 : Obj, Ext w ((w.alloc o1).alloc o2)) := fun o1 o2 => ((Ext.refl w).alloc o1).alloc o2
  have HA : Hid (∀ W, Calls Try.prog 82 #[vv a] W fun e w' => e = .returned (.bool true) ∧ Ext W w') := fun W => by rw [← hva]; exact vValid_any a W ha
  have HB : Hid (∀ W, Calls Try.prog 82 #[vv b] W fun e w' => e = .returned (.bool true) ∧ Ext W w') := fun W => by rw [← hvb]; exact vValid_any b W hb
  have HC : Hid (∀ W, Calls Try.prog 69 #[vv a, vv b] W fun e w' => e = .returned (.int .i64 (RL.cmpV a b)) ∧ Ext W w') := fun W => vCompare_any a b W
  clear hva hvb
  generalize RL.cmpV a b = c at *
  go_enter Try.func64, Try.ntmps64
  go_wp2_with fail
  refine (HA.out _).mono ?_
  rintro e w1 ⟨rfl, hx⟩
  obtain ⟨hc, hf⟩ := hx.rules
  go_wp2_with fail
  refine (HB.out _).mono ?_
  rintro e w2 ⟨rfl, hx2⟩
  obtain ⟨hc, hf⟩ := (hx.trans hx2).rules
  go_wp2_with fail
  refine (HC.out _).mono ?_
  rintro e w3 ⟨rfl, hx3⟩
  clear hc hf
  go_wp2
  go_ret2
  exact ⟨rfl, (((HE.out _ _).trans hx).trans hx2).trans hx3⟩

theorem vHolds_ok2 (a b : RL.V) (w : World) (ha : a.str.size ≤ 9223372036854775807) (hb : b.str.size ≤ 9223372036854775807) (hva : RL.validV a = true) (hvb : RL.validV b = true) : Calls Try.prog 64 #[vv a, .int .i64 2, vv b] w fun e w' => e = .returned (.tuple #[.bool (RL.holdsF 2 (RL.cmpV a b)), .int .i64 0]) ∧ Ext w w' := by
  have HE : Hid (∀ o1 o2 : Obj, Ext w ((w.alloc o1).alloc o2)) := fun o1 o2 => ((Ext.refl w).alloc o1).alloc o2
  have HA : Hid (∀ W, Calls Try.prog 82 #[vv a] W fun e w' => e = .returned (.bool true) ∧ Ext W w') := fun W => by rw [← hva]; exact vValid_any a W ha
  have HB : Hid (∀ W, Calls Try.prog 82 #[vv b] W fun e w' => e = .returned (.bool true) ∧ Ext W w') := fun W => by rw [← hvb]; exact vValid_any b W hb
  have HC : Hid (∀ W, Calls Try.prog 69 #[vv a, vv b] W fun e w' => e = .returned (.int .i64 (RL.cmpV a b)) ∧ Ext W w') := fun W => vCompare_any a b W
  clear hva hvb
  generalize RL.cmpV a b = c at *
  go_enter Try.func64, Try.ntmps64
  go_wp2_with fail
  refine (HA.out _).mono ?_
  rintro e w1 ⟨rfl, hx⟩
  obtain ⟨hc, hf⟩ := hx.rules
  go_wp2_with fail
  refine (HB.out _).mono ?_
  rintro e w2 ⟨rfl, hx2⟩
  obtain ⟨hc, hf⟩ := (hx.trans hx2).rules
  go_wp2_with fail
  refine (HC.out _).mono ?_
  rintro e w3 ⟨rfl, hx3⟩
  clear hc hf
  go_wp2
  go_ret2
  exact ⟨rfl, (((HE.out _ _).trans hx).trans hx2).trans hx3⟩

theorem vHolds_ok3 (a b : RL.V) (w : World) (ha : a.str.size ≤ 9223372036854775807) (hb : b.str.size ≤ 9223372036854775807) (hva : RL.validV a = true) (hvb : RL.validV b = true) : Calls Try.prog 64 #[vv a, .int .i64 3, vv b] w fun e w' => e = .returned (.tuple #[.bool (RL.holdsF 3 (RL.cmpV a b)), .int .i64 0]) ∧ Ext w w' := by
  have HE : Hid (∀ o1 o2 : Obj, Ext w ((w.alloc o1).alloc o2)) := fun o1 o2 => ((Ext.refl w).alloc o1).alloc o2
  have HA : Hid (∀ W, Calls Try.prog 82 #[vv a] W fun e w' => e = .returned (.bool true) ∧ Ext W w') := fun W => by rw [← hva]; exact vValid_any a W ha
  have HB : Hid (∀ W, Calls Try.prog 82 #[vv b] W fun e w' => e = .returned (.bool true) ∧ Ext W w') := fun W => by rw [← hvb]; exact vValid_any b W hb
  have HC : Hid (∀ W, Calls Try.prog 69 #[vv a, vv b] W fun e w' => e = .returned (.int .i64 (RL.cmpV a b)) ∧ Ext W w') := fun W => vCompare_any a b W
  clear hva hvb
  generalize RL.cmpV a b = c at *
  go_enter Try.func64, Try.ntmps64
  go_wp2_with fail
  refine (HA.out _).mono ?_
  rintro e w1 ⟨rfl, hx⟩
  obtain ⟨hc, hf⟩ := hx.rules
  go_wp2_with fail
  refine (HB.out _).mono ?_
  rintro e w2 ⟨rfl, hx2⟩
  obtain ⟨hc, hf⟩ := (hx.trans hx2).rules
  go_wp2_with fail
  refine (HC.out _).mono ?_
  rintro e w3 ⟨rfl, hx3⟩
  clear hc hf
  go_wp2
  go_ret2
  exact ⟨rfl, (((HE.out _ _).trans hx).trans hx2).trans hx3⟩

theorem vHolds_ok4 (a b : RL.V) (w : World) (ha : a.str.size ≤ 9223372036854775807) (hb : b.str.size ≤ 9223372036854775807) (hva : RL.validV a = true) (hvb : RL.validV b = true) : Calls Try.prog 64 #[vv a, .int .i64 4, vv b] w fun e w' => e = .returned (.tuple #[.bool (RL.holdsF 4 (RL.cmpV a b)), .int .i64 0]) ∧ Ext w w' := by
  have HE : Hid (∀ o1 o2 : Obj, Ext w ((w.alloc o1).alloc o2)) := fun o1 o2 => ((Ext.refl w).alloc o1).alloc o2
  have HA : Hid (∀ W, Calls Try.prog 82 #[vv a] W fun e w' => e = .returned (.bool true) ∧ Ext W w') := fun W => by rw [← hva]; exact vValid_any a W ha
  have HB : Hid (∀ W, Calls Try.prog 82 #[vv b] W fun e w' => e = .returned (.bool true) ∧ Ext W w') := fun W => by rw [← hvb]; exact vValid_any b W hb
  have HC : Hid (∀ W, Calls Try.prog 69 #[vv a, vv b] W fun e w' => e = .returned (.int .i64 (RL.cmpV a b)) ∧ Ext W w') := fun W => vCompare_any a b W
  clear hva hvb
  generalize RL.cmpV a b = c at *
  go_enter Try.func64, Try.ntmps64
  go_wp2_with fail
  refine (HA.out _).mono ?_
  rintro e w1 ⟨rfl, hx⟩
  obtain ⟨hc, hf⟩ := hx.rules
  go_wp2_with fail
  refine (HB.out _).mono ?_
  rintro e w2 ⟨rfl, hx2⟩
  obtain ⟨hc, hf⟩ := (hx.trans hx2).rules
  go_wp2_with fail
  refine (HC.out _).mono ?_
  rintro e w3 ⟨rfl, hx3⟩
  clear hc hf
  go_wp2
  go_ret2
  exact ⟨rfl, (((HE.out _ _).trans hx).trans hx2).trans hx3⟩

theorem vHolds_ok5 (a b : RL.V) (w : World) (ha : a.str.size ≤ 9223372036854775807) (hb : b.str.size ≤ 9223372036854775807) (hva : RL.validV a = true) (hvb : RL.validV b = true) : Calls Try.prog 64 #[vv a, .int .i64 5, vv b] w fun e w' => e = .returned (.tuple #[.bool (RL.holdsF 5 (RL.cmpV a b)), .int .i64 0]) ∧ Ext w w' := by
  have HE : Hid (∀ o1 o2 : Obj, Ext w ((w.alloc o1).alloc o2)) := fun o1 o2 => ((Ext.refl w).alloc o1).alloc o2
  have HA : Hid (∀ W, Calls Try.prog 82 #[vv a] W fun e w' => e = .returned (.bool true) ∧ Ext W w') := fun W => by rw [← hva]; exact vValid_any a W ha
  have HB : Hid (∀ W, Calls Try.prog 82 #[vv b] W fun e w' => e = .returned (.bool true) ∧ Ext W w') := fun W => by rw [← hvb]; exact vValid_any b W hb
  have HC : Hid (∀ W, Calls Try.prog 69 #[vv a, vv b] W fun e w' => e = .returned (.int .i64 (RL.cmpV a b)) ∧ Ext W w') := fun W => vCompare_any a b W
  clear hva hvb
  generalize RL.cmpV a b = c at *
  go_enter Try.func64, Try.ntmps64
  go_wp2_with fail
  refine (HA.out _).mono ?_
  rintro e w1 ⟨rfl, hx⟩
  obtain ⟨hc, hf⟩ := hx.rules
  go_wp2_with fail
  refine (HB.out _).mono ?_
  rintro e w2 ⟨rfl, hx2⟩
  obtain ⟨hc, hf⟩ := (hx.trans hx2).rules
  go_wp2_with fail
  refine (HC.out _).mono ?_
  rintro e w3 ⟨rfl, hx3⟩
  clear hc hf
  go_wp2
  go_ret2
  exact ⟨rfl, (((HE.out _ _).trans hx).trans hx2).trans hx3⟩

theorem vHolds_ok (a b : RL.V) (op : Int) (w : World) (h0 : 0 ≤ op) (h5 : op ≤ 5) (ha : a.str.size ≤ 9223372036854775807) (hb : b.str.size ≤ 9223372036854775807) (hva : RL.validV a = true) (hvb : RL.validV b = true) : Calls Try.prog 64 #[vv a, .int .i64 op, vv b] w fun e w' => e = .returned (.tuple #[.bool (RL.holdsF op (RL.cmpV a b)), .int .i64 0]) ∧ Ext w w' := by
  have : op = 0 ∨ op = 1 ∨ op = 2 ∨ op = 3 ∨ op = 4 ∨ op = 5 := by omega
  rcases this with rfl | rfl | rfl | rfl | rfl | rfl
  · exact vHolds_ok0 a b w ha hb hva hvb
  · exact vHolds_ok1 a b w ha hb hva hvb
  · exact vHolds_ok2 a b w ha hb hva hvb
  · exact vHolds_ok3 a b w ha hb hva hvb
  · exact vHolds_ok4 a b w ha hb hva hvb
  · exact vHolds_ok5 a b w ha hb hva hvb

end Go.Proofs.Ytiopkooigeaneaa

/- Walk: the function that LeapfrogStops passes to Each. -/
import Derived.Test.YtiomelogggilgaaQ10
namespace Go.Proofs.Ytiomelogggilgaa
open Go.RowKit Go.Sort

/-- Its state: the rows so far, and the box that says how many. -/
def StopI (gb B mb t : Nat) (L : List RL.R) (O : Nat → Prop) (w : World) : Prop := ∃ O1 : Nat → Prop, ColI gb B L O1 w ∧ (∀ b, O b ↔ O1 b ∨ b = mb) ∧ ¬ O1 mb ∧ Row w mb 5 [.int .u8 (t : Nat)]

set_option maxHeartbeats 4000000 in
set_option maxRecDepth 100000 in
theorem stops1_step (gb B mb t : Nat) (ht : t < 256) (L : List RL.R) (O : Nat → Prop) (w : World) (base : Nat) (vx : Value) (x : RL.R) (hI : StopI gb B mb t L O w) (hO : ∀ b, O b → b < w.heap.size) (hx : w.ownsRow base 41 3 vx x.length (rcells x)) (hn : ∀ b, vx.ownBlock = some b → ¬ O b) (hL : L.length < 1000000000) :
    Calls Try.prog 13 #[vx, .pointer (some ⟨gb, 0, none⟩), .pointer (some ⟨mb, 0, none⟩)] w fun e w' => e = .returned (.bool (decide ((L ++ [x]).length < t % 10 + 1))) ∧ ∃ O' : Nat → Prop, StopI gb B mb t (L ++ [x]) O' w' ∧ (∀ b, O' b → b < w'.heap.size ∧ (O b ∨ vx.ownBlock = some b ∨ w.heap.size ≤ b)) ∧ Chg O w w' := by
  obtain ⟨O1, ⟨v, hs, hC⟩, hO1, hnm, hrm⟩ := hI
  obtain ⟨-, A, C, rfl, hc, hm, hsl, -⟩ := SlR.of_own hx
  have g0 : w.cell? ⟨gb, 0, none⟩ = some v := hC.row.cell 0
  have g1 : w.cell? ⟨mb, 0, none⟩ = some (.int .u8 (t : Nat)) := hrm.cell 0
  have hgz := hC.row.lt
  have hmz := hrm.lt
  have hgm : gb ≠ mb := fun e => hnm (by rw [← e]; exact hC.og)
  have HC := Lib.hid hC
  have HO1 : Hid (∀ b, O1 b → b < w.heap.size) := fun b hb => hO b ((hO1 b).2 (.inl hb))
  have HOO := Lib.hid hO1
  have HNM := Lib.hid hnm
  have HRM := Lib.hid hrm
  have HSL := Lib.hid hsl
  have HA : Hid (∀ ad, A = some ad → ¬ O1 ad.block ∧ ad.block < w.heap.size) := fun ad e => ⟨fun h => hn ad.block (by rw [e]; rfl) ((hO1 _).2 (.inl h)), own_lt hx ad.block (by rw [e]; rfl)⟩
  have HAM : Hid ((Value.slice A x.length C).ownBlock ≠ some mb) := fun e => hn mb e ((hO1 _).2 (.inr rfl))
  have HCM := Lib.hid (And.intro hc hm)
  have HFZ := Lib.hid (own_frozen hx)
  have hL1 : L.length < 1000000000 := hL
  have hwt : IntKind.i64.wrap ((t : Int) % 10 + 1) = ((t % 10 + 1 : Nat) : Int) := by rw [IntWalk.i64_in _ (by omega)]; omega
  clear hC hO hsl hx hn hc hm hO1 hnm hrm
  go_enter Try.func13, Try.ntmps13
  go_wp2_with
    (at_builtin
     first
       | (refine appH1 rfl (.tmp 5) (.tmp 7) rfl B v L.length hs rfl (HC.out.own.alloc _) w.heap.size (.slice A x.length C) rfl ((Row.new w 34 [.slice A x.length C]).cell 0) rfl (by omega) (by have := HC.out.z; simp; omega) ?_
          intro v' w6 hown6 hg6 hat6
          obtain ⟨A6, C6, rfl, -, -⟩ := Sl.of_own_n hown6
          have hr6 : Row w6 gb 32 [v] := (HC.out.row.alloc (.cells #[.slice A x.length C] 34)).grown hg6 (fun e => by have := own_base HC.out.own e.symm; have := HC.out.lt; omega)
          have hr7 : Row w6 mb 5 [.int .u8 (t : Nat)] := (HRM.out.alloc (.cells #[.slice A x.length C] 34)).grown hg6 (fun e => HNM.out (HC.out.ov mb e.symm))
          have k0 : w6.cell? ⟨gb, 0, none⟩ = some v := hr6.cell 0
          have k1 : w6.cell? ⟨mb, 0, none⟩ = some (.int .u8 (t : Nat)) := hr7.cell 0
          have kf : w6.frozen? ⟨gb, 0, none⟩ = false := hr6.frozen 0
          have HR7 := Lib.hid hr7
          have HFIN := Lib.hid (HC.out.put HO1.out HSL.out HCM.out.1 HCM.out.2 HA.out HFZ.out hown6 hg6 hat6)
          have q0 : (w6.setCell ⟨gb, 0, none⟩ (.slice A6 (L.length + 1) C6)).cell? ⟨gb, 0, none⟩ = some (.slice A6 (L.length + 1) C6) := (hr6.set 0 _).cell 0
          have q1 : (w6.setCell ⟨gb, 0, none⟩ (.slice A6 (L.length + 1) C6)).cell? ⟨mb, 0, none⟩ = some (.int .u8 (t : Nat)) := (Row.far hr7 (fun e => hgm e.symm) _).cell 0
          have HR8 : Hid (Row (w6.setCell ⟨gb, 0, none⟩ (.slice A6 (L.length + 1) C6)) mb 5 [.int .u8 (t : Nat)]) := Row.far hr7 (fun e => hgm e.symm) _
          clear hown6 hg6 hat6 hr6 hr7)
       | fail)
  go_wp2
  go_ret
  obtain ⟨O', k1, k2, k3⟩ := HFIN.out
  refine ⟨?_, fun b => O' b ∨ b = mb, ⟨O', ⟨_, _, k1⟩, fun b => Iff.rfl, fun h => ?_, HR8.out⟩, fun b hb => ?_, k3.mono fun b _ h => (HOO.out b).2 (.inl h)⟩
  · show Ending.returned (Value.bool (decide ((L.length : Int) < (t : Int) % 10))) = _
    rw [show decide ((L.length : Int) < (t : Int) % 10) = decide ((L ++ [x]).length < t % 10 + 1) from decide_eq_decide.2 (by rw [List.length_append, List.length_singleton]; omega)]
  · obtain ⟨-, h1 | h1 | h1⟩ := k2 mb h
    · exact HNM.out h1
    · exact HAM.out h1
    · omega
  · rcases hb with hb | hb
    · obtain ⟨h0, h1 | h1⟩ := k2 b hb
      · exact ⟨h0, .inl ((HOO.out b).2 (.inl h1))⟩
      · exact ⟨h0, .inr h1⟩
    · rw [hb]
      exact ⟨HR8.out.lt, .inl ((HOO.out mb).2 (.inr rfl))⟩
theorem stops1_yield (gb B mb t D : Nat) (ht : t < 256) : YieldC 13 #[.pointer (some ⟨gb, 0, none⟩), .pointer (some ⟨mb, 0, none⟩)] (fun l => decide (l.length < t % 10 + 1)) (StopI gb B mb t) 1000000000 D where
  enter := enters_of Try.func13 (by kernel_rfl) rfl
  keep L O w w' := fun ⟨O1, ⟨v, hs, h⟩, h1, h2, h3⟩ hO hk hz => ⟨O1, ⟨v, hs, h.keep (fun b hb => hk b ((h1 b).2 (.inl hb))) hz⟩, h1, h2, (hk mb ((h1 mb).2 (.inr rfl))).trans h3⟩
  step L O w base v x hI hO hx hn _ hL := stops1_step gb B mb t ht L O w base v x hI hO hx hn hL

end Go.Proofs.Ytiomelogggilgaa

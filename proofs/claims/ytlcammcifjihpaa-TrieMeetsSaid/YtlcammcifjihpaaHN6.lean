/- Walk: the law TrieMeets. -/
import Derived.Test.YtlcammcifjihpaaHN5
import Derived.Test.YtlcammcifjihpaaQ6
import Derived.Deep.DeepCutAuto
namespace Go.Proofs.Ytlcammcifjihpaa
open Go.RowKit Go.Sort

theorem row1_at {B : Nat} {w : World} {A : Option Addr} {K : RL.R} (h : SlRs B w A (K.map fun v => [v])) {i : Nat} (hi : i < K.length) :
    ∃ b o b' o' C', A = some ⟨b, o, none⟩ ∧ b < B ∧ b' < B ∧ w.cell? ⟨b, o + i, none⟩ = some (.slice (some ⟨b', o', none⟩) 1 C') ∧ w.cell? ⟨b', o', none⟩ = some (.int .i64 K[i].kind) ∧ w.cell? ⟨b', o' + 1, none⟩ = some (.int .i64 K[i].int) ∧ w.cell? ⟨b', o' + 2, none⟩ = some (.string K[i].str) := by
  have hi' : i < (K.map fun v => [v]).length := by simpa using hi
  obtain ⟨b, o, A', C', e1, e2, e3, e4, e5, e6⟩ := slRs_at h hi'
  have hx : (K.map fun v => [v])[i] = [K[i]] := by simp
  rw [hx] at e3 e6
  obtain ⟨b', o', e7, e8, d1, d2, d3⟩ := slR_at e6 (i := 0) (by simp)
  subst e7
  exact ⟨b, o, b', o', C', e1, e2, e8, by simpa using e3, by simpa using d1, by simpa using d2, by simpa using d3⟩
/-- What holds at the head of the meeting loop. -/
def MeetInv (w7 : World) (g1 g2 : Nat) (LA LB : Option Addr) (LC LD : Nat) (K1 K2 M : RL.R) (mo gv nn : Value) (wr : World) : Prop :=
  ∃ (mb : Bool) (n : Nat) (got : RL.R), mo = .bool mb ∧ nn = .int .i64 n ∧ wr.ownsRow (g2 + 1) 38 3 gv got.length (rcells got) ∧ got.length ≤ n ∧ Below w7.heap.size w7 wr ∧ g2 < wr.heap.size ∧ (mb = false → got = M) ∧
    (mb = true → ∃ p q sa sb, p < K1.length ∧ n ≤ p ∧ Meet K1 K2 p q got ∧ IterP wr g1 LA 1 LC (K1.map fun v => [v]) (some ([], p)) sa ∧ IterP wr g2 LB 1 LD (K2.map fun v => [v]) (some ([], q)) sb ∧ sa ≤ n * 200002 ∧ sb ≤ n * 200002)
theorem newErr_col0 {n : Nat} (hn : 0 < n) : newErr (n : Int) [0] = 0 := newErr_zero fun j hj => by
  simp at hj
  subst hj
  unfold colErr
  simp
  omega

section
variable {K : RL.R} (hk : RL.kids 1 (K.map fun v => [v]) [] = K)
include hk
theorem one_on (p : Nat) : onX 1 (K.map fun v => [v]) (some ([], p)) = decide (p < K.length) := by show decide (p < (RL.kids 1 _ []).length) = _; rw [hk]
theorem one_key {p : Nat} (hp : p < K.length) : keyV 1 (K.map fun v => [v]) (some ([], p)) = K[p] := by
  show (RL.kids 1 _ []).getD p _ = _
  rw [hk, List.getD_eq_getElem?_getD, List.getElem?_eq_getElem hp]
  rfl
theorem one_next {p : Nat} (hp : p < K.length) : nextX 1 (K.map fun v => [v]) (some ([], p)) = some ([], p + 1) := by
  show (if p < (RL.kids 1 _ []).length then _ else _) = _
  rw [hk, if_pos hp]
theorem one_seek {q : Nat} (v : RL.V) (h1 : q ≤ cntF K v) (h2 : cntF K v ≤ K.length) : seekX 1 (K.map fun v => [v]) v (some ([], q)) = some ([], cntF K v) := by
  show (if q < (RL.kids 1 _ []).length then some (([] : RL.R), max q ((RL.kids 1 _ []).countP fun u => decide (RL.cmpV u v < 0))) else _) = _
  rw [hk]
  split
  · rw [show max q (K.countP fun u => decide (RL.cmpV u v < 0)) = cntF K v by unfold cntF at *; omega]
  · rw [show q = cntF K v by omega]
theorem one_seek2 {p : Nat} (v : RL.V) (hp : p < K.length) : seekX 1 (K.map fun v => [v]) v (some ([], p)) = some ([], max p (cntF K v)) := by
  show (if p < (RL.kids 1 _ []).length then some (([] : RL.R), max p ((RL.kids 1 _ []).countP fun u => decide (RL.cmpV u v < 0))) else _) = _
  rw [hk, if_pos hp]
  rfl
omit hk in
theorem one_openB : openB 1 (K.map fun v => [v]) none = decide (K ≠ []) := by
  show (decide (0 < 1) && decide (K.map (fun v => [v]) ≠ [])) = _
  simp
omit hk in
theorem one_openX (h : K ≠ []) : openX 1 (K.map fun v => [v]) none = some ([], 0) := by
  show (if openB 1 _ none then _ else _) = _
  rw [one_openB]
  simp [h]
end
/-- made of one column, the first. -/
theorem made1 (ar : Nat) (A : Option Addr) (C : Nat) (X : List (List Nat)) (g : Nat) (w : World) (har : ar < 256) (hX : SlA 3 w.heap.size w A X) (hl : X.length ≤ 40) (hB : Bytes X) (hg : Row w g 3 [.int .i64 0]) (h0 : newErr (ar % 4 : Nat) [0] = 0) :
    Calls Try.prog 10 #[.agg #[.int .u8 ar, .slice A X.length C], .slice (some ⟨g, 0, none⟩) 1 1] w fun e w' => ∃ LA LC VA VC K, e = .returned (.tuple #[.agg #[.slice LA 1 LC], .slice VA (List.length (α := RL.V) K) VC, .bool true]) ∧ K.Pairwise (fun a b => RL.cmpV a b < 0) ∧ K.length ≤ 40 ∧ RL.kids 1 (K.map fun v => [v]) [] = K ∧ TrM w'.heap.size w' LA 1 (vsF 1 (K.map fun v => [v])) (fsF 1 (K.map fun v => [v])) ∧ SlRs w'.heap.size w' VA (K.map fun v => [v]) ∧ Below w.heap.size w w' := by
  refine (l34made_any ar A (some ⟨g, 0, none⟩) C 1 X [0] w har hX (by omega) hB hg.sl (by simp) (by simp) (by omega)).mono ?_
  rintro e w' ⟨-, h2, hb⟩
  obtain ⟨LA, LC, VA, VC, rfl, -, -, htr, hsv⟩ := h2 h0
  have hS : RL.SS (projRows ar X [0]) := RL.SS.of _
  have hd : ∀ r ∈ projRows ar X [0], r.length = 1 := fun r hr => by
    obtain ⟨z, _, rfl⟩ := List.mem_map.1 ((RL.mem_ofF _ _).1 hr)
    exact projF_length z [0]
  have hl2 : (projRows ar X [0]).length ≤ 40 := by
    have h1 := RL.ofF_length_le ((X.map (rowN (ar % 4))).map (projF · [0]))
    rw [List.length_map, List.length_map] at h1
    exact Nat.le_trans h1 hl
  have hone := kids_one hS hd
  have hasc := RL.kids_asc hd ([] : RL.R)
  have hkk : RL.kids 1 ((RL.kids 1 (projRows ar X [0]) []).map fun v => [v]) [] = RL.kids 1 (projRows ar X [0]) [] := by rw [← hone]
  have hlen : (projRows ar X [0]).length = (RL.kids 1 (projRows ar X [0]) []).length := by have h := congrArg List.length hone; rw [List.length_map] at h; exact h
  refine ⟨LA, LC, VA, VC, RL.kids 1 (projRows ar X [0]) [], ?_, hasc, by omega, hkk, ?_, ?_, hb⟩
  · rw [hlen]; rfl
  · rw [← hone]; exact htr
  · rw [← hone]; exact hsv

set_option maxHeartbeats 8000000 in
set_option maxRecDepth 100000 in
theorem meets_walk (ar br : Nat) (A A2 : Option Addr) (C C2 : Nat) (X Y : List (List Nat)) (w : World) (har : ar < 256) (hbr : br < 256) (hX : SlA 3 w.heap.size w A X) (hY : SlA 3 w.heap.size w A2 Y) (hXl : X.length ≤ 9223372036854775807) (hYl : Y.length ≤ 9223372036854775807) (hB : Bytes X) (hB2 : Bytes Y) :
    Calls Try.prog 4 #[.agg #[.int .u8 ar, .slice A X.length C], .agg #[.int .u8 br, .slice A2 Y.length C2]] w fun e w' => e = .returned (.bool true) ∧ Below w.heap.size w w' := by
  have HX := Lib.hid hX
  have HY := Lib.hid hY
  have HBX := Lib.hid hB
  have HBY := Lib.hid hB2
  clear hX hY hB hB2
  have HGX := Lib.hid (fun W => l34great_any ar A none X.length C 0 0 W hXl (by omega))
  have HGY := Lib.hid (fun W => l34great_any br A2 none Y.length C2 0 0 W hYl (by omega))
  obtain ⟨W0, hW0⟩ : ∃ W0, W0 = (w.alloc (.cells #[.int .u8 ar, .slice A X.length C] 24)).alloc (.cells #[.int .u8 br, .slice A2 Y.length C2] 24) := ⟨_, rfl⟩
  have hx0 : Ext w W0 := by rw [hW0]; exact ((Ext.refl w).alloc _).alloc _
  have hr0 : Row W0 w.heap.size 24 [.int .u8 ar, .slice A X.length C] := by rw [hW0]; exact (Row.new w 24 _).alloc _
  have hr1 : Row W0 (w.heap.size + 1) 24 [.int .u8 br, .slice A2 Y.length C2] := by
    rw [hW0]
    have h := Row.new (w.alloc (.cells #[.int .u8 ar, .slice A X.length C] 24)) 24 [.int .u8 br, .slice A2 Y.length C2]
    simp only [World.size_alloc] at h
    exact h
  have p0 : W0.cell? ⟨w.heap.size, 0, none⟩ = some (.int .u8 ar) := hr0.cell 0
  have p1 : W0.cell? ⟨w.heap.size, 1, none⟩ = some (.slice A X.length C) := hr0.cell 1
  have HR0 := Lib.hid hr0
  have HR1 := Lib.hid hr1
  have HX0 := Lib.hid hx0
  clear hx0 hr0 hr1
  have AWAKE : Hid (∀ W, Below w.heap.size w W → Calls Try.prog 9 #[] W fun e w' => e = .returned (.bool true) ∧ Below w.heap.size w w') := fun W hW => (l34awake_any W).mono fun e w' h => ⟨h.1, Below.then hW h.2 hW.size⟩
  go_enter Try.func4, Try.ntmps4
  go_wp2_with fail
  rw [← hW0]
  clear hW0
  refine (HGX.out W0).mono ?_
  rintro e w1 ⟨rfl, hx⟩
  have HX1 := Lib.hid (HX0.out.trans hx)
  have hr0 := HR0.out.up hx.below
  have hr1 := HR1.out.up hx.below
  have p0 : w1.cell? ⟨w.heap.size, 0, none⟩ = some (.int .u8 ar) := hr0.cell 0
  have p1 : w1.cell? ⟨w.heap.size, 1, none⟩ = some (.slice A X.length C) := hr0.cell 1
  have q0 : w1.cell? ⟨w.heap.size + 1, 0, none⟩ = some (.int .u8 br) := hr1.cell 0
  have q1 : w1.cell? ⟨w.heap.size + 1, 1, none⟩ = some (.slice A2 Y.length C2) := hr1.cell 1
  have HR0' := Lib.hid hr0
  have HR1' := Lib.hid hr1
  clear hx hr0 hr1 HGX HR0 HR1 HX0
  rw [show (decide (40 < X.length) || decide (10 < 0)) = decide (40 < X.length) by simp]
  rw [show (decide (40 < Y.length) || decide (10 < 0)) = decide (40 < Y.length) by simp] at HGY
  cases hgx : decide (40 < X.length)
  rotate_left
  · clear hgx
    go_wp2_with fail
    refine (AWAKE.out w1 HX1.out.below).mono ?_
    rintro e w2 ⟨rfl, hb⟩
    have HB := Lib.hid hb
    clear hb
    go_wp2
    go_ret
    exact ⟨rfl, HB.out⟩
  go_wp2_with fail
  refine (HGY.out w1).mono ?_
  rintro e w2 ⟨rfl, hx⟩
  have HX2 := Lib.hid (HX1.out.trans hx)
  have hr0 := HR0'.out.up hx.below
  have hr1 := HR1'.out.up hx.below
  have p0 : w2.cell? ⟨w.heap.size, 0, none⟩ = some (.int .u8 ar) := hr0.cell 0
  have p1 : w2.cell? ⟨w.heap.size, 1, none⟩ = some (.slice A X.length C) := hr0.cell 1
  have q0 : w2.cell? ⟨w.heap.size + 1, 0, none⟩ = some (.int .u8 br) := hr1.cell 0
  have q1 : w2.cell? ⟨w.heap.size + 1, 1, none⟩ = some (.slice A2 Y.length C2) := hr1.cell 1
  have HR0 := Lib.hid hr0
  have HR1 := Lib.hid hr1
  clear hx hr0 hr1 HGY HR0' HR1' HX1
  simp only [decide_eq_false_iff_not, Nat.not_lt] at hgx
  cases hgy : decide (40 < Y.length)
  rotate_left
  · clear hgy
    go_wp2_with fail
    refine (AWAKE.out w2 HX2.out.below).mono ?_
    rintro e w3 ⟨rfl, hb⟩
    have HB := Lib.hid hb
    clear hb
    go_wp2
    go_ret
    exact ⟨rfl, HB.out⟩
  simp only [decide_eq_false_iff_not, Nat.not_lt] at hgy
  by_cases ha : ar % 4 = 0
  · have ha' : ((ar : Int) % 4 == 0) = true := by simp; omega
    clear ha
    go_wp2_with fail
    refine (AWAKE.out w2 HX2.out.below).mono ?_
    rintro e w3 ⟨rfl, hb⟩
    have HB := Lib.hid hb
    clear hb
    go_wp2
    go_ret
    exact ⟨rfl, HB.out⟩
  have ha' : ((ar : Int) % 4 == 0) = false := by simp; omega
  by_cases hb : br % 4 = 0
  · have hb' : ((br : Int) % 4 == 0) = true := by simp; omega
    clear ha hb
    go_wp2_with fail
    refine (AWAKE.out w2 HX2.out.below).mono ?_
    rintro e w3 ⟨rfl, hb⟩
    have HB := Lib.hid hb
    clear hb
    go_wp2
    go_ret
    exact ⟨rfl, HB.out⟩
  have hb' : ((br : Int) % 4 == 0) = false := by simp; omega
  have HA0 := Lib.hid (newErr_col0 (n := ar % 4) (by omega))
  have HB0 := Lib.hid (newErr_col0 (n := br % 4) (by omega))
  clear ha hb
  go_wp2_with fail
  have hx3 : Ext w2 (w2.alloc (.cells #[.int .i64 0] 3)) := (Ext.refl w2).alloc _
  have HMX := Lib.hid (made1 ar A C X w2.heap.size (w2.alloc (.cells #[.int .i64 0] 3)) har (HX.out.upB (HX2.out.trans hx3).below) hgx HBX.out (Row.new w2 3 [.int .i64 0]) HA0.out)
  refine HMX.out.mono ?_
  rintro e w3 ⟨LA, LC, VA, VC, K1, rfl, hk1, hl1, hkk1, htr1, hsv1, hb3⟩
  have hb3' := Below.box hb3 (by simp)
  have HB3 := Lib.hid (Below.then HX2.out.below hb3' HX2.out.size)
  have hr1 := HR1.out.up hb3'
  have q0 : w3.cell? ⟨w.heap.size + 1, 0, none⟩ = some (.int .u8 br) := hr1.cell 0
  have q1 : w3.cell? ⟨w.heap.size + 1, 1, none⟩ = some (.slice A2 Y.length C2) := hr1.cell 1
  have HR3 := Lib.hid hr1
  have hqz := hr1.lt
  clear hx3 hb3 hb3' hr1 HMX p0 p1 ha' hb'
  go_wp2_with fail
  obtain ⟨W4, hW4⟩ : ∃ W4, W4 = w3.alloc (.cells #[.slice LA 1 LC] 31) := ⟨_, rfl⟩
  have hx4 : Ext w3 W4 := by rw [hW4]; exact (Ext.refl w3).alloc _
  have hr4 : Row W4 w3.heap.size 31 [.slice LA 1 LC] := by rw [hW4]; exact Row.new w3 31 _
  have hz4 : W4.heap.size = w3.heap.size + 1 := by rw [hW4]; simp
  have hx5 : Ext W4 (W4.alloc (.cells #[.int .i64 0] 3)) := (Ext.refl W4).alloc _
  have HMY := Lib.hid (made1 br A2 C2 Y W4.heap.size (W4.alloc (.cells #[.int .i64 0] 3)) hbr (HY.out.upB (Below.then HB3.out (hx4.trans hx5).below HB3.out.size)) hgy HBY.out (Row.new W4 3 [.int .i64 0]) HB0.out)
  rw [hz4] at HMY
  rw [← hW4]
  refine HMY.out.mono ?_
  rintro e w5 ⟨LB, LD, VB, VD, K2, rfl, hk2, hl2, hkk2, htr2, hsv2, hb5⟩
  have hb5' : Below W4.heap.size W4 w5 := Below.box hb5 (by simp)
  have hb35 : Below w3.heap.size w3 w5 := Below.then hx4.below hb5' (by omega)
  have HB5 := Lib.hid (Below.then HB3.out hb35 HB3.out.size)
  have HR5 := Lib.hid (hr4.up hb5')
  have HT1 : Hid (∀ W, Below w5.heap.size w5 W → TrM w5.heap.size W LA 1 (vsF 1 (K1.map fun v => [v])) (fsF 1 (K1.map fun v => [v]))) := fun W hW => ((htr1.below hb35 (Nat.le_refl _)).more hb35.size).below hW (Nat.le_refl _)
  have HT2 : Hid (∀ W, Below w5.heap.size w5 W → TrM w5.heap.size W LB 1 (vsF 1 (K2.map fun v => [v])) (fsF 1 (K2.map fun v => [v]))) := fun W hW => htr2.below hW (Nat.le_refl _)
  have HVA := Lib.hid (hsv1.upB hb35)
  have HVB := Lib.hid hsv2
  have HK1 := Lib.hid hk1
  have HK2 := Lib.hid hk2
  have HKK1 := Lib.hid hkk1
  have HKK2 := Lib.hid hkk2
  have hz5 := hr4.lt
  have hz35 := hb35.size
  clear hx4 hr4 hz4 hx5 hb5 hb5' hb35 htr1 htr2 hsv1 hsv2 hk1 hk2 hkk1 hkk2 HMY q0 q1 hW4 HR3
  go_upto_region 9 with (fail)
  obtain ⟨W6, hW6⟩ : ∃ W6, W6 = w5.alloc (.cells #[.slice LB 1 LD] 31) := ⟨_, rfl⟩
  have hx6 : Ext w5 W6 := by rw [hW6]; exact (Ext.refl w5).alloc _
  have hr6 : Row W6 w5.heap.size 31 [.slice LB 1 LD] := by rw [hW6]; exact Row.new w5 31 _
  rw [← hW6]
  clear hW6
  have HR6 := Lib.hid (HR5.out.up hx6.below)
  have HS6 := Lib.hid hr6
  have HB6 := Lib.hid (Below.then HB5.out hx6.below HB5.out.size)
  have HX6 := Lib.hid hx6
  have hz6 := hr6.lt
  clear hx6 hr6 HR5
  go_loopw [11, 12] (fun v m wr => ∃ i : Nat, i ≤ K1.length ∧ m = .int .i64 i ∧ wr.ownsRow W6.heap.size 38 3 v (meetF (K1.take i) K2).length (rcells (meetF (K1.take i) K2)) ∧ Below W6.heap.size W6 wr) (fun _ m _ => K1.length - (intOf m).toNat)
  case atStart => exact ⟨0, Nat.zero_le _, rfl, own_nil _ _ _ _, Below.refl _ _⟩
  case round =>
    obtain ⟨i, hia, rfl, hown, hb⟩ := hrel
    have HOW := Lib.hid hown
    have HBL := Lib.hid hb
    have hzl := hb.size
    clear hown hb
    by_cases h1 : i < K1.length
    rotate_left
    · obtain rfl : i = K1.length := by omega
      rw [List.take_length] at HOW
      obtain ⟨-, WA, WC, hu11, hwc, hwm, hws, -⟩ := SlR.of_own HOW.out
      subst hu11
      have HWS := Lib.hid hws
      have HML : Hid ((meetF K1 K2).length ≤ 100) := by
        show _ ≤ _
        unfold meetF
        have := List.length_filter_le (fun v => decide (v ∈ K2)) K1
        omega
      have HMN : Hid (K1 = [] ∨ K2 = [] → [] = meetF K1 K2) := fun h => by
        rcases h with h | h
        · rw [h]; rfl
        · rw [h, meetF_nil]
      have HSTOP := Lib.hid (fun p q got (m : Meet K1 K2 p q got) (hp : p < K1.length) => (⟨m.cnt HK2.out hp, m.stop HK1.out HK2.out hp, m.hit HK1.out HK2.out hp, m.miss HK1.out HK2.out hp⟩ : (q ≤ cntF K2 K1[p] ∧ cntF K2 K1[p] ≤ K2.length) ∧ (¬ cntF K2 K1[p] < K2.length → got = meetF K1 K2) ∧ (∀ (he : cntF K2 K1[p] < K2.length), K2[cntF K2 K1[p]] = K1[p] → Meet K1 K2 (p + 1) (cntF K2 K1[p]) (got ++ [K1[p]])) ∧ (∀ (he : cntF K2 K1[p] < K2.length), K2[cntF K2 K1[p]] ≠ K1[p] → p < max p (cntF K1 K2[cntF K2 K1[p]]) ∧ Meet K1 K2 (max p (cntF K1 K2[cntF K2 K1[p]])) (cntF K2 K1[p]) got)))
      have HST0 := Lib.hid (Meet.start K1 K2)
      have HDONE := Lib.hid (fun p q got (m : Meet K1 K2 p q got) (h : ¬ p < K1.length) => m.done h)
      generalize meetF K1 K2 = M at *
      obtain ⟨w7, hw7⟩ : ∃ w7, w7 = wr := ⟨_, rfl⟩
      subst hw7
      have hbx := Below.then HX6.out.below HBL.out HX6.out.size
      have HB7 := Lib.hid (Below.then HB6.out HBL.out HB6.out.size)
      have t1 : w7.cell? ⟨w3.heap.size, 0, none⟩ = some (.slice LA 1 LC) := (HR6.out.up HBL.out).cell 0
      have t2 : w7.cell? ⟨w5.heap.size, 0, none⟩ = some (.slice LB 1 LD) := (HS6.out.up HBL.out).cell 0
      have hz1 := (HR6.out.up HBL.out).lt
      have hz2 := (HS6.out.up HBL.out).lt
      have HT1' : Hid (∀ W, Below w7.heap.size w7 W → TrM w7.heap.size W LA 1 (vsF 1 (K1.map fun v => [v])) (fsF 1 (K1.map fun v => [v]))) := fun W hW => ((HT1.out w7 hbx).more hbx.size).below hW (Nat.le_refl _)
      have HT2' : Hid (∀ W, Below w7.heap.size w7 W → TrM w7.heap.size W LB 1 (vsF 1 (K2.map fun v => [v])) (fsF 1 (K2.map fun v => [v]))) := fun W hW => ((HT2.out w7 hbx).more hbx.size).below hW (Nat.le_refl _)
      have HI1 := Lib.hid (fun W => itIter LA 1 LC (K1.map fun v => [v]) W)
      have HI2 := Lib.hid (fun W => itIter LB 1 LD (K2.map fun v => [v]) W)
      have HPL1 : Hid (∀ r ∈ K1.map (fun v => [v]), r.length = 1) := fun r hr => by obtain ⟨v, _, rfl⟩ := List.mem_map.1 hr; rfl
      have HPL2 : Hid (∀ r ∈ K2.map (fun v => [v]), r.length = 1) := fun r hr => by obtain ⟨v, _, rfl⟩ := List.mem_map.1 hr; rfl
      have hP1 : (K1.map fun v => [v]).length ≤ 100000 := by rw [List.length_map]; omega
      have hP2 : (K2.map fun v => [v]).length ≤ 100000 := by rw [List.length_map]; omega
      have HOB1 := Lib.hid (one_openB (K := K1))
      have HOB2 := Lib.hid (one_openB (K := K2))
      have HOX1 := Lib.hid (fun h => one_openX (K := K1) h)
      have HOX2 := Lib.hid (fun h => one_openX (K := K2) h)
      clear hws hbx HOW HT1 HT2 HR6 HS6 HB6 HX6 HBL HVA HVB
      go_wp2
      refine wp_region_held_drew (S := (fun w' => w'.cell? ⟨w3.heap.size, 0, none⟩ = some (.slice LA 1 LC) ∧ w'.cell? ⟨w5.heap.size, 0, none⟩ = some (.slice LB 1 LD))) (by kernel_rfl) ⟨t1, t2⟩ (fun hHeld => ?_)
      refine takeOp (i := 0) (v := ?_) (some 96) rfl rfl (by kernel_rfl) (by kernel_rfl) (by kernel_rfl) (fun _ _ _ h => h) (Or.inl ⟨by rfl, ?_⟩) (by assumption) ?_
      rotate_left 1
      · (intro w0 hSw; (try dsimp only at hSw); go_simp; try (with_reducible rfl))
      try simp only [Act.put]
      try simp only [List.setIfInBounds_toArray]
      try simp only [List.set_cons_succ]
      try simp only [List.set_cons_zero]
      refine takeOp (i := 2) (v := ?_) (some 98) rfl rfl (by kernel_rfl) (by kernel_rfl) (by kernel_rfl) (fun _ _ _ h => h) (Or.inl ⟨by rfl, ?_⟩) (by assumption) ?_
      rotate_left 1
      · (intro w0 hSw; (try dsimp only at hSw); go_simp; try (with_reducible rfl))
      try simp only [Act.put]
      try simp only [List.setIfInBounds_toArray]
      try simp only [List.set_cons_succ]
      try simp only [List.set_cons_zero]
      refine wpAnyH_ready (rs := [1]) (by kernel_rfl) (by simp) ?_
      refine AllReadyH.cons rfl (fun K hK => ?_) AllReadyH.nil
      go_simp
      refine (HI1.out _).mono ?_
      rintro e w8 ⟨g1, rfl, hg1, hit1, hb8⟩
      have hb8' : Below w7.heap.size w7 w8 := Below.undrew hb8
      have KEEP : w8.cell? ⟨w3.heap.size, 0, none⟩ = some (.slice LA 1 LC) ∧ w8.cell? ⟨w5.heap.size, 0, none⟩ = some (.slice LB 1 LD) := ⟨(hb8'.cell (p := ⟨w3.heap.size, 0, none⟩) hz1).trans t1, (hb8'.cell (p := ⟨w5.heap.size, 0, none⟩) hz2).trans t2⟩
      have HIA8 := Lib.hid hit1
      have HB8 := Lib.hid hb8'
      have hg1' : w7.heap.size ≤ g1 := hg1
      have hg1z := hit1.lt
      have hz8 := hb8'.size
      clear hit1 hb8 hb8' hg1
      go_wp2_with fail
      refine hK.out _ _ KEEP (fun hHeld => ?_)
      clear hK K
      try simp only [Act.put]
      try simp only [List.setIfInBounds_toArray]
      try simp only [List.set_cons_succ]
      try simp only [List.set_cons_zero]
      refine wpAnyH_ready (rs := [3]) (by kernel_rfl) (by simp) ?_
      refine AllReadyH.cons rfl (fun K hK => ?_) AllReadyH.nil
      go_simp
      refine (HI2.out _).mono ?_
      rintro e w9 ⟨g2, rfl, hg2, hit2, hb9⟩
      have KEEP2 : w9.cell? ⟨w3.heap.size, 0, none⟩ = some (.slice LA 1 LC) ∧ w9.cell? ⟨w5.heap.size, 0, none⟩ = some (.slice LB 1 LD) := ⟨(hb9.cell (p := ⟨w3.heap.size, 0, none⟩) (by show w3.heap.size < _; omega)).trans KEEP.1, (hb9.cell (p := ⟨w5.heap.size, 0, none⟩) (by show w5.heap.size < _; omega)).trans KEEP.2⟩
      have HIA9 := Lib.hid (HIA8.out.up hb9)
      have HIB9 := Lib.hid hit2
      have HB9 := Lib.hid (Below.then HB8.out hb9 HB8.out.size)
      have hgg : g1 < g2 := by omega
      have hg2z := hit2.lt
      clear hit2 hb9 hg2
      go_wp2_with fail
      refine hK.out _ _ KEEP2 (fun hHeld => ?_)
      clear hK K
      try simp only [Act.put]
      try simp only [List.setIfInBounds_toArray]
      try simp only [List.set_cons_succ]
      try simp only [List.set_cons_zero]
      refine takeOp (i := 4) (v := ?_) (some 14) rfl rfl (by kernel_rfl) (by kernel_rfl) (by kernel_rfl) (fun _ _ _ h => h) (Or.inl ⟨by rfl, ?_⟩) (by assumption) ?_
      rotate_left 1
      · (intro w0 hSw; (try dsimp only at hSw); go_simp; try (with_reducible rfl))
      try simp only [Act.put]
      try simp only [List.setIfInBounds_toArray]
      try simp only [List.set_cons_succ]
      try simp only [List.set_cons_zero]
      refine takeOp (i := 5) (v := ?_) (some 15) rfl rfl (by kernel_rfl) (by kernel_rfl) (by kernel_rfl) (fun _ _ _ h => h) (Or.inl ⟨by rfl, ?_⟩) (by assumption) ?_
      rotate_left 1
      · (intro w0 hSw; (try dsimp only at hSw); go_simp; try (with_reducible rfl))
      try simp only [Act.put]
      try simp only [List.setIfInBounds_toArray]
      try simp only [List.set_cons_succ]
      try simp only [List.set_cons_zero]
      refine wpAnyH_done (by kernel_rfl) ?_ _
      have HOA := Lib.hid (itOpen w7.heap.size g1 LA 1 LC (K1.map fun v => [v]) none 0 w9 (HT1'.out w9 HB9.out) HB9.out.size HIA9.out (by omega) hP1 HPL1.out)
      rw [HOB1.out] at HOA
      clear HIA8 HB8 HI1 HI2 t1 t2 KEEP KEEP2 hHeld HOB1
      go_wp2_with fail
      refine HOA.out.mono ?_
      rintro e w10 ⟨rfl, hit, hg10⟩
      have HIA10 := Lib.hid hit
      have HIB10 := Lib.hid (HIB9.out.grown hg10 (fun e => by injection e; omega))
      have HB10 := Lib.hid (Below.then HB9.out (below_of_grown hg10 hg1' HB9.out.size) (Nat.le_refl _))
      have hg2z10 : g2 < w10.heap.size := by have := hg10.size; omega
      clear hit hg10 HIA9 HIB9 HB9 HOA
      by_cases hk1 : K1 = []
      case' pos =>
        rw [show decide (K1 ≠ []) = false by simpa using hk1]
        have HINV : Hid (MeetInv w7 g1 g2 LA LB LC LD K1 K2 M (.bool false) (.slice none 0 0) (.int .i64 0) w10) :=
          ⟨false, 0, [], rfl, rfl, own_nil _ _ _ _, Nat.le_refl _, HB10.out, hg2z10, (fun _ => HMN.out (.inl hk1)), fun h => by cases h⟩
        clear HIA10 HIB10 HB10 hk1
        go_upto_region 22 with (fail)
        obtain ⟨wl, hwl⟩ : ∃ wl, wl = w10 := ⟨_, rfl⟩
        subst hwl
      case' neg =>
        rw [show decide (K1 ≠ []) = true by simpa using hk1]
        have HOBB := Lib.hid (itOpen w7.heap.size g2 LB 1 LD (K2.map fun v => [v]) none 0 w10 (HT2'.out w10 HB10.out) HB10.out.size HIB10.out (by omega) hP2 HPL2.out)
        rw [HOB2.out] at HOBB
        obtain ⟨kb, hkb⟩ : ∃ kb, kb = decide (K2 ≠ []) := ⟨_, rfl⟩
        rw [← hkb] at HOBB
        have HKB := Lib.hid hkb
        clear hkb
        have HPO : Hid (0 < K1.length) := List.length_pos_iff.2 hk1
        have HOA0 := Lib.hid (HOX1.out hk1)
        clear hk1
        go_wp2_with fail
        refine HOBB.out.mono ?_
        rintro e wl ⟨rfl, hit, hg11⟩
        have HINV : Hid (MeetInv w7 g1 g2 LA LB LC LD K1 K2 M (.bool kb) (.slice none 0 0) (.int .i64 0) wl) := by
          refine ⟨kb, 0, [], rfl, rfl, own_nil _ _ _ _, Nat.le_refl _, Below.then HB10.out (below_of_grown hg11 (by omega : w7.heap.size ≤ g2) HB10.out.size) (Nat.le_refl _), by have := hg11.size; omega, (fun h => HMN.out (.inr (by rw [HKB.out] at h; simpa using h))), fun h => ?_⟩
          have hk2 : K2 ≠ [] := by rw [HKB.out] at h; simpa using h
          rw [HOX2.out hk2] at hit
          have hia := HIA10.out.grown hg11 (fun e => by injection e; omega)
          rw [HOA0.out] at hia
          exact ⟨0, 0, 0, 0, HPO.out, Nat.le_refl _, HST0.out, hia, hit, by omega, by omega⟩
        clear hit hg11 HOBB HIA10 HIB10 HB10 HPO HOA0
        go_upto_region 22 with (fail)
      all_goals
        clear HMN HST0 HOX1 HOX2 HOB2
        go_loopw [16, 17, 18] (MeetInv w7 g1 g2 LA LB LC LD K1 K2 M) (fun _ _ nn _ => 100 - (intOf nn).toNat)
        case atStart => exact HINV.out
        case round =>
          obtain ⟨mb, n, got, rfl, rfl, hown, hgl, hbl, hg2l, hfin, hon⟩ := hrel
          have HOWN := Lib.hid hown
          have HBL := Lib.hid hbl
          have HFIN := Lib.hid hfin
          have HON := Lib.hid hon
          clear hown hbl hfin hon HINV
          cases mb
          · have HGM := Lib.hid (HFIN.out rfl)
            obtain ⟨-, GA, GC, hu17, -, -, hgs, -⟩ := SlR.of_own HOWN.out
            subst hu17
            have HSM := Lib.hid (l34same_any GA WA GC WC got M wr hgs (HWS.out.upB HBL.out) (by rw [HGM.out]; have := HML.out; omega) (by have := HML.out; omega))
            rw [show decide (got = M) = true by simpa using HGM.out] at HSM
            have HBT := Lib.hid (Below.then HB7.out HBL.out HB7.out.size)
            clear hgs HON HFIN
            go_wp2_with fail
            refine HSM.out.mono ?_
            rintro e w11 ⟨rfl, hx⟩
            have HBT2 := Lib.hid (Below.then HBT.out hx.below HBT.out.size)
            clear hx HSM
            go_wp2_with fail
            refine (AWAKE.out w11 HBT2.out).mono ?_
            rintro e w12 ⟨rfl, hb⟩
            have HB := Lib.hid hb
            clear hb
            go_wp2
            go_ret
            exact ⟨rfl, HB.out⟩
          · obtain ⟨p, q, sa, sb, hp, hnp, hm, hia, hib, hsa, hsb⟩ := HON.out rfl
            obtain ⟨⟨hq1, hq2⟩, hstop, hhit, hmiss⟩ := HSTOP.out p q got hm hp
            have HIA := Lib.hid hia
            have HIB := Lib.hid hib
            have hn1000 : (n : Int) < 1000 := by omega
            have HK := Lib.hid (itKey w7.heap.size g1 LA 1 LC (K1.map fun v => [v]) (some ([], p)) sa wr (HT1'.out wr HBL.out) HBL.out.size hia (by omega) hP1 HPL1.out)
            rw [one_key HKK1.out hp, one_on HKK1.out, show decide (p < K1.length) = true by simpa using hp] at HK
            have HSK : Hid (∀ W, Below w7.heap.size w7 W → IterP W g2 LB 1 LD (K2.map fun v => [v]) (some ([], q)) sb → Calls Try.prog 14 #[.pointer (some ⟨g2, 0, none⟩), vv K1[p]] W fun e w' => ∃ s', e = .returned (.bool (decide (cntF K2 K1[p] < K2.length))) ∧ IterP w' g2 LB 1 LD (K2.map fun v => [v]) (some ([], cntF K2 K1[p])) s' ∧ s' ≤ sb + 200002 ∧ W.grownBy w' (some g2)) := fun W hb hi => by
              have h := itSeek w7.heap.size g2 LB 1 LD (K2.map fun v => [v]) (some ([], q)) sb K1[p] W (HT2'.out W hb) hb.size (by omega) hi (by omega) hP2 HPL2.out (by omega)
              rw [one_seek HKK2.out K1[p] hq1 hq2, one_on HKK2.out] at h
              exact h
            have HSTP := Lib.hid hstop
            have HHT := Lib.hid hhit
            have HMS := Lib.hid hmiss
            clear hstop hhit hmiss hm hia hib HON HFIN hq1
            generalize K1[p] = v at *
            go_wp2_with fail
            refine HK.out.mono ?_
            rintro e w11 ⟨rfl, hb11⟩
            obtain ⟨W12, hW12⟩ : ∃ W12, W12 = w11.alloc (.cells #[.int .i64 v.kind, .int .i64 v.int, .string v.str] 38) := ⟨_, rfl⟩
            have hx12 : Ext w11 W12 := by rw [hW12]; exact (Ext.refl w11).alloc _
            have hr12 : Row W12 w11.heap.size 38 (vcells v) := by rw [hW12]; exact Row.new w11 38 (vcells v)
            have n1 : W12.cell? ⟨w11.heap.size, 0, none⟩ = some (.int .i64 v.kind) := hr12.cell 0
            have n2 : W12.cell? ⟨w11.heap.size, 1, none⟩ = some (.int .i64 v.int) := hr12.cell 1
            have n3 : W12.cell? ⟨w11.heap.size, 2, none⟩ = some (.string v.str) := hr12.cell 2
            have hb12 := Below.then hb11 hx12.below hb11.size
            have HB12 := Lib.hid (Below.then HBL.out hb12 HBL.out.size)
            have HIA12 := Lib.hid (HIA.out.up hb12)
            have HIB12 := Lib.hid (HIB.out.up hb12)
            have HO12 := Lib.hid (own_keep HOWN.out hb12)
            have HR12 := Lib.hid hr12
            have hz11 := hb11.size
            have hz12 := hr12.lt
            clear hb11 hx12 hr12 hb12 HIA HIB HOWN HK
            go_wp2_with fail
            rw [← hW12]
            clear hW12
            refine (HSK.out W12 HB12.out HIB12.out).mono ?_
            rintro e w13 ⟨sb', rfl, hit, hsb', hg13⟩
            have HIB13 := Lib.hid hit
            have HIA13 := Lib.hid (HIA12.out.grown hg13 (fun e => by injection e; omega))
            have HB13 := Lib.hid (Below.then HB12.out (below_of_grown hg13 (by omega : w7.heap.size ≤ g2) HB12.out.size) (Nat.le_refl _))
            have HO13 := Lib.hid (own_grown HO12.out hg13 (fun j hj e => by have := own_base HO12.out hj; injection e; omega))
            have hr13 := HR12.out.grown hg13 (fun e => by injection e; omega)
            have n1' : w13.cell? ⟨w11.heap.size, 0, none⟩ = some (.int .i64 v.kind) := hr13.cell 0
            have n2' : w13.cell? ⟨w11.heap.size, 1, none⟩ = some (.int .i64 v.int) := hr13.cell 1
            have n3' : w13.cell? ⟨w11.heap.size, 2, none⟩ = some (.string v.str) := hr13.cell 2
            have HR13 := Lib.hid hr13
            have hz13 := hg13.size
            have hsa2 : sa ≤ (n + 1) * 200002 := Nat.le_trans hsa (Nat.mul_le_mul_right _ (Nat.le_succ n))
            have hsb2 : sb' ≤ (n + 1) * 200002 := Nat.le_trans hsb' (by rw [Nat.succ_mul]; exact Nat.add_le_add_right hsb _)
            clear hit hg13 hr13 HSK HIA12 HIB12 HB12 HO12 HR12 n1 n2 n3
            by_cases hlt : cntF K2 v < K2.length
            · have hlt' : decide (cntF K2 v < K2.length) = true := by simpa using hlt
              rw [hlt']
              have HK2' := Lib.hid (itKey w7.heap.size g2 LB 1 LD (K2.map fun v => [v]) (some ([], cntF K2 v)) sb' w13 (HT2'.out w13 HB13.out) HB13.out.size HIB13.out (by omega) hP2 HPL2.out)
              rw [one_key HKK2.out hlt, one_on HKK2.out, hlt'] at HK2'
              have HHT2 := Lib.hid (HHT.out hlt)
              have HMS2 := Lib.hid (HMS.out hlt)
              generalize K2[cntF K2 v] = u at *
              generalize cntF K2 v = q' at *
              clear HHT HMS HSTP hlt'
              go_wp2_with fail
              refine HK2'.out.mono ?_
              rintro e w14 ⟨rfl, hb14⟩
              obtain ⟨W15, hW15⟩ : ∃ W15, W15 = w14.alloc (.cells #[.int .i64 u.kind, .int .i64 u.int, .string u.str] 38) := ⟨_, rfl⟩
              have hx15 : Ext w14 W15 := by rw [hW15]; exact (Ext.refl w14).alloc _
              have hr15 : Row W15 w14.heap.size 38 (vcells u) := by rw [hW15]; exact Row.new w14 38 (vcells u)
              have m1 : W15.cell? ⟨w14.heap.size, 0, none⟩ = some (.int .i64 u.kind) := hr15.cell 0
              have m2 : W15.cell? ⟨w14.heap.size, 1, none⟩ = some (.int .i64 u.int) := hr15.cell 1
              have m3 : W15.cell? ⟨w14.heap.size, 2, none⟩ = some (.string u.str) := hr15.cell 2
              have hb15 := Below.then hb14 hx15.below hb14.size
              have HB15 := Lib.hid (Below.then HB13.out hb15 HB13.out.size)
              have HIA15 := Lib.hid (HIA13.out.up hb15)
              have HIB15 := Lib.hid (HIB13.out.up hb15)
              have HO15 := Lib.hid (own_keep HO13.out hb15)
              have hr16 := HR13.out.up hb15
              have n1 : W15.cell? ⟨w11.heap.size, 0, none⟩ = some (.int .i64 v.kind) := hr16.cell 0
              have n2 : W15.cell? ⟨w11.heap.size, 1, none⟩ = some (.int .i64 v.int) := hr16.cell 1
              have n3 : W15.cell? ⟨w11.heap.size, 2, none⟩ = some (.string v.str) := hr16.cell 2
              have HR15 := Lib.hid hr16
              have hz14 := hb14.size
              have hz15 := hb15.size
              clear hb14 hx15 hb15 HIA13 HIB13 HO13 HR13 HK2' hr16 hr15
              go_upto_region 28 with (fail)
              rw [← hW15]
              clear hW15
              by_cases huv : u = v
              · have heq := run_eqV_t huv
                have HME := Lib.hid (HHT2.out huv)
                clear huv HHT2 HMS2
                go_wp2_with (at_builtin; refine app1VS rfl (.tmp 137) (.tmp 139) rfl (g2 + 1) u17 got rfl (by exact HO15.out.alloc _) W15.heap.size v rfl (by go_simp) (by go_simp) (by go_simp) (by omega) (by simp; omega) ?_)
                intro v' w17 hown17 hg17
                have hvb : ∀ j, u17.ownBlock = some j → g2 + 1 ≤ j := fun j hj => own_base HO15.out hj
                have hx17 : Ext W15 (W15.alloc (.cells #[.int .i64 v.kind, .int .i64 v.int, .string v.str] 38)) := (Ext.refl W15).alloc _
                have ho17 : w17.ownsRow (g2 + 1) 38 3 v' (got ++ [v]).length (rcells (got ++ [v])) := by rw [List.length_append]; exact hown17
                have HO17 := Lib.hid ho17
                have HIA17 := Lib.hid ((HIA15.out.ext hx17).grown hg17 (fun e => by have := hvb _ e.symm; omega))
                have HIB17 := Lib.hid ((HIB15.out.ext hx17).grown hg17 (fun e => by have := hvb _ e.symm; omega))
                have HB17 := Lib.hid (Below.then HB15.out (app_kept (B := w7.heap.size) (fun j hj => by have := hvb j hj; omega) HB15.out.size hg17) (Nat.le_refl _))
                have hz17 := hg17.size
                simp only [World.size_alloc] at hz17
                clear hown17 ho17 hg17 hvb hx17 HO15 HIA15 HIB15 HB15
                have HNX := Lib.hid (itNext w7.heap.size g1 LA 1 LC (K1.map fun v => [v]) (some ([], p)) sa w17 HIA17.out hP1)
                rw [one_next HKK1.out hp, one_on HKK1.out] at HNX
                go_wp2_with fail
                refine HNX.out.mono ?_
                rintro e w18 ⟨rfl, hit, hg18⟩
                have HINV : Hid (MeetInv w7 g1 g2 LA LB LC LD K1 K2 M (.bool (decide (p + 1 < K1.length))) v' (.int .i64 ((n + 1 : Nat) : Int)) w18) := by
                  refine ⟨_, n + 1, got ++ [v], rfl, rfl, own_grown HO17.out hg18 (fun j hj e => by have := own_base HO17.out hj; injection e; omega), by rw [List.length_append, List.length_singleton]; omega, Below.then HB17.out (below_of_grown hg18 (by omega : w7.heap.size ≤ g1) HB17.out.size) (Nat.le_refl _), by have := hg18.size; omega, (fun h => HDONE.out (p + 1) q' _ HME.out (by simpa using h)), fun h => ?_⟩
                  exact ⟨p + 1, q', sa, sb', by simpa using h, Nat.succ_le_succ hnp, HME.out, hit, HIB17.out.grown hg18 (fun e => by injection e; omega), hsa2, hsb2⟩
                obtain ⟨kb2, hkb2⟩ : ∃ kb2, kb2 = decide (p + 1 < K1.length) := ⟨_, rfl⟩
                rw [← hkb2] at HINV
                rw [← hkb2]
                clear hkb2 hit hg18 HNX HO17 HIA17 HIB17 HB17 HME
                go_wp2
                go_roundw
                case rel => exact HINV.out
                case measure => simp [intOf]; omega
              · have heq := run_eqV_f huv
                obtain ⟨hpp, hme⟩ := HMS2.out huv
                have HME := Lib.hid hme
                clear huv HHT2 HMS2 hme
                have HS2 := Lib.hid (itSeek w7.heap.size g1 LA 1 LC (K1.map fun v => [v]) (some ([], p)) sa u W15 (HT1'.out W15 HB15.out) HB15.out.size (by omega) HIA15.out (by omega) hP1 HPL1.out (by omega))
                rw [one_seek2 HKK1.out u hp, one_on HKK1.out] at HS2
                generalize max p (cntF K1 u) = p' at *
                go_wp2_with fail
                refine HS2.out.mono ?_
                rintro e w18 ⟨sa', rfl, hit, hsa', hg18⟩
                have HINV : Hid (MeetInv w7 g1 g2 LA LB LC LD K1 K2 M (.bool (decide (p' < K1.length))) u17 (.int .i64 ((n + 1 : Nat) : Int)) w18) := by
                  refine ⟨_, n + 1, got, rfl, rfl, own_grown HO15.out hg18 (fun j hj e => by have := own_base HO15.out hj; injection e; omega), by omega, Below.then HB15.out (below_of_grown hg18 (by omega : w7.heap.size ≤ g1) HB15.out.size) (Nat.le_refl _), by have := hg18.size; omega, (fun h => HDONE.out p' q' _ HME.out (by simpa using h)), fun h => ?_⟩
                  exact ⟨p', q', sa', sb', by simpa using h, Nat.lt_of_le_of_lt hnp hpp, HME.out, hit, HIB15.out.grown hg18 (fun e => by injection e; omega), Nat.le_trans hsa' (by rw [Nat.succ_mul]; exact Nat.add_le_add_right hsa _), hsb2⟩
                obtain ⟨kb2, hkb2⟩ : ∃ kb2, kb2 = decide (p' < K1.length) := ⟨_, rfl⟩
                rw [← hkb2] at HINV
                rw [← hkb2]
                clear hkb2 hit hg18 HS2 HO15 HIA15 HIB15 HB15 HME
                go_wp2
                go_roundw
                case rel => exact HINV.out
                case measure => simp [intOf]; omega
            · have HGM := Lib.hid (HSTP.out hlt)
              have hlt' : decide (cntF K2 v < K2.length) = false := by simpa using hlt
              rw [hlt']
              obtain ⟨-, GA, GC, hu17, -, -, hgs, -⟩ := SlR.of_own HO13.out
              subst hu17
              have HSM := Lib.hid (l34same_any GA WA GC WC got M w13 hgs (HWS.out.upB HB13.out) (by rw [HGM.out]; have := HML.out; omega) (by have := HML.out; omega))
              rw [show decide (got = M) = true by simpa using HGM.out] at HSM
              have HBT := Lib.hid (Below.then HB7.out HB13.out HB7.out.size)
              clear hgs hlt hlt' HSTP HHT HMS
              go_wp2_with fail
              refine HSM.out.mono ?_
              rintro e w14 ⟨rfl, hx⟩
              have HBT2 := Lib.hid (Below.then HBT.out hx.below HBT.out.size)
              clear hx HSM
              go_wp2_with fail
              refine (AWAKE.out w14 HBT2.out).mono ?_
              rintro e w15 ⟨rfl, hb⟩
              have HB := Lib.hid hb
              clear hb
              go_wp2
              go_ret
              exact ⟨rfl, HB.out⟩
    have hxl : Ext w5 W6 := HX6.out
    obtain ⟨b, o, b', o', C', hVA, hb1, hb2, c0, c1, c2, c3⟩ := row1_at (HVA.out.up HX6.out) h1
    subst hVA
    have HW0 : Hid (meetF (K1.take i) K2 = wantK K1 K2 i 0) := (wantK_zero K1 K2 i).symm
    have HWE : Hid (wantK K1 K2 i K2.length = meetF (K1.take (i + 1)) K2) := wantK_row h1
    have HHIT := Lib.hid (fun k (hk : k < K2.length) => wantK_hit HK2.out h1 hk)
    have HMIS := Lib.hid (fun k (hk : k < K2.length) => wantK_miss h1 hk)
    have HWL : Hid (∀ k, (wantK K1 K2 i k).length ≤ 100) := fun k => by
      show _ ≤ _
      unfold wantK meetF
      rw [List.length_append]
      have h3 := List.length_filter_le (fun v => decide (v ∈ K2)) (K1.take i)
      rw [List.length_take] at h3
      have h4 : (if h : i < K1.length then (if K1[i] ∈ K2.take k then [K1[i]] else []) else []).length ≤ 1 := by
        rw [dif_pos h1]
        split
        · exact Nat.le_refl _
        · exact Nat.zero_le _
      omega
    generalize K1[i] = u at *
    rw [HW0.out] at HOW
    clear hxl
    go_wp2
    go_loopw [11, 13] (fun v m wr => ∃ k : Nat, k ≤ K2.length ∧ m = .int .i64 k ∧ wr.ownsRow W6.heap.size 38 3 v (wantK K1 K2 i k).length (rcells (wantK K1 K2 i k)) ∧ Below W6.heap.size W6 wr) (fun _ m _ => K2.length - (intOf m).toNat)
    case atStart => exact ⟨0, Nat.zero_le _, rfl, HOW.out, HBL.out⟩
    case round =>
      obtain ⟨k, hka, rfl, hown, hb⟩ := hrel
      have HOW2 := Lib.hid hown
      have HBL2 := Lib.hid hb
      have hzl2 := hb.size
      by_cases h2 : k < K2.length
      rotate_left
      · obtain rfl : k = K2.length := by omega
        rw [HWE.out] at HOW2
        clear hown hb
        go_wp2
        go_roundw
        case rel => exact ⟨i + 1, by omega, by go_num, HOW2.out, HBL2.out⟩
        case measure => simp [intOf]; omega
      obtain ⟨e, f, e', f', D', hVB, hb3, hb4, d0, d1, d2, d3⟩ := row1_at (HVB.out.up HX6.out) h2
      subst hVB
      have HHK := Lib.hid (HHIT.out k h2)
      have HMK := Lib.hid (HMIS.out k h2)
      have HLK := HWL.out k
      generalize K2[k] = v at *
      have c0 := (hb.cell (p := ⟨b, o + i, none⟩) hb1).trans c0
      have c1 := (hb.cell (p := ⟨b', o', none⟩) hb2).trans c1
      have c2 := (hb.cell (p := ⟨b', o' + 1, none⟩) hb2).trans c2
      have c3 := (hb.cell (p := ⟨b', o' + 2, none⟩) hb2).trans c3
      have d0 := (hb.cell (p := ⟨e, f + k, none⟩) hb3).trans d0
      have d1 := (hb.cell (p := ⟨e', f', none⟩) hb4).trans d1
      have d2 := (hb.cell (p := ⟨e', f' + 1, none⟩) hb4).trans d2
      have d3 := (hb.cell (p := ⟨e', f' + 2, none⟩) hb4).trans d3
      have g1 : (i : Int) < (K1.length : Int) := by omega
      have g2 : (k : Int) < (K2.length : Int) := by omega
      generalize wantK K1 K2 i k = wk at *
      clear hown hb
      by_cases huv : u = v
      · have HS := Lib.hid (HHK.out huv)
        have hr := run_eqV_t huv
        clear huv HHK HMK HHIT HMIS
        go_wp2
        go_quiet (fail)
        go_upto_region 15 with (fail)
        go_wp2_with (at_builtin; refine app1VS rfl (.tmp 87) (.tmp 94) rfl W6.heap.size u11 wk rfl (by exact HOW2.out.alloc _) wr.heap.size u rfl (by exact (Row.new (wr.drewN nq) 38 (vcells u)).cell 0) (by exact (Row.new (wr.drewN nq) 38 (vcells u)).cell 1) (by exact (Row.new (wr.drewN nq) 38 (vcells u)).cell 2) (by omega) (by simp; omega) ?_)
        intro v' w7 hown7 hg7
        have hvb : ∀ j, u11.ownBlock = some j → W6.heap.size ≤ j := fun j hj => own_base HOW2.out hj
        have HOWN7 := Lib.hid hown7
        have HB7 := Lib.hid (Below.then HBL2.out (Below.undrewN (app_kept hvb (by exact hzl2) hg7)) (Nat.le_refl _))
        clear hown7 hg7 hvb
        go_wp2
        go_roundw
        case rel => exact ⟨k + 1, by omega, by go_num, by rw [HS.out, List.length_append]; exact HOWN7.out, HB7.out⟩
        case measure => simp [intOf]; omega
      · have HS := Lib.hid (HMK.out huv)
        have hr := run_eqV_f huv
        clear huv HHK HMK HHIT HMIS
        go_wp2
        go_quiet (fail)
        go_wp2
        go_roundw
        case rel => exact ⟨k + 1, by omega, by go_num, by rw [HS.out]; exact HOW2.out, Below.drewN' HBL2.out _⟩
        case measure => simp [intOf]; omega

end Go.Proofs.Ytlcammcifjihpaa

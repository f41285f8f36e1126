/- Walk: the law RelationChanges. -/
import Derived.Test.YtiopkooigeaneaaV26
import Derived.Test.YtiopkooigeaneaaE6
import Derived.Test.YtiopkooigeaneaaM3
namespace Go.Proofs.Ytiopkooigeaneaa
open Go.RowKit Go.Sort

/-- The slice at address A reads as the acts: whether to delete, and the row. -/
def SlActs (B : Nat) (w : World) (A : Option Addr) (acts : List (Bool × RL.R)) : Prop :=
  ∀ i (h : i < acts.length), ∃ b o A' C', A = some ⟨b, o, none⟩ ∧ b < B ∧ w.cell? ⟨b, o + i * 2, none⟩ = some (.bool acts[i].1) ∧ w.cell? ⟨b, o + i * 2 + 1, none⟩ = some (.slice A' acts[i].2.length C') ∧ acts[i].2.length ≤ C' ∧ C' ≤ 9223372036854775807 ∧ SlR B w A' acts[i].2
theorem SlActs.below {B C : Nat} {w w' : World} {A : Option Addr} {acts : List (Bool × RL.R)} (h : SlActs B w A acts) (hb : Below C w w') (hC : B ≤ C) : SlActs B w' A acts := fun i hi => by
  obtain ⟨b, o, A', C', h1, h2, h3, h4, h5, h6, h7⟩ := h i hi
  exact ⟨b, o, A', C', h1, h2, (hb.cell (p := ⟨b, o + i * 2, none⟩) (show b < C by omega)).trans h3, (hb.cell (p := ⟨b, o + i * 2 + 1, none⟩) (show b < C by omega)).trans h4, h5, h6, h7.below hb hC⟩

theorem l7width_ex (ar : Nat) (w : World) (har : ar < 256) : Calls Try.prog 12 #[.int .u8 ar] w fun e w' => ∃ n : Nat, n ≤ 4 ∧ e = .returned (.int .i64 n) ∧ w = w' :=
  (l7width_any ar w har).mono fun e w' ⟨h1, h2⟩ => ⟨ar % 5, by omega, h1, h2.symm⟩
/-- What the loop of RelationChanges keeps. -/
def ChInv (w : World) (rb n : Nat) (k : Nat) (m : Value) (wr : World) : Prop :=
  ∃ (M : List RL.R) (RA MA : Option Addr) (RC MC : Nat), m = .slice MA M.length MC ∧ M.length ≤ MC ∧ MC ≤ 9223372036854775807 ∧ SlRsP (fun b => b ≠ rb) wr.heap.size wr MA M ∧ Row wr rb 29 [.int .i64 n, .slice RA M.length RC] ∧ M.length ≤ RC ∧ RC ≤ 9223372036854775807 ∧ SlRsP (fun b => b ≠ rb) wr.heap.size wr RA M ∧ M.length ≤ k ∧ RL.SS M ∧ RsOk M ∧ Below w.heap.size w wr

theorem insF_len (M : List RL.R) (x : RL.R) : (RL.insF M x).length ≤ M.length + 1 := by
  unfold RL.insF
  split
  · omega
  · have := RL.rank_le M x
    simp; omega
theorem insF_sub (M : List RL.R) (x : RL.R) : ∀ y ∈ RL.insF M x, y ∈ M ∨ y = x := fun y hy => by
  unfold RL.insF at hy
  split at hy
  · exact .inl hy
  · simp at hy
    rcases hy with h | h | h
    · exact .inl (List.mem_of_mem_take h)
    · exact .inr h
    · exact .inl (List.mem_of_mem_drop h)
theorem delF_len (M : List RL.R) (x : RL.R) : (RL.delF M x).length ≤ M.length + 1 := Nat.le_succ_of_le (List.length_filter_le _ _)
theorem delF_sub (M : List RL.R) (x : RL.R) : ∀ y ∈ RL.delF M x, y ∈ M ∨ y = x := fun y hy => .inl (List.mem_filter.1 hy).1

/-- What Insert or Delete did: the new list of rows, whether it changed. -/
def chF (d : Bool) (M : List RL.R) (x : RL.R) : List RL.R := if d = true then RL.delF M x else RL.insF M x
theorem chF_len (d : Bool) (M : List RL.R) (x : RL.R) : (chF d M x).length ≤ M.length + 1 := by
  cases d
  · exact insF_len M x
  · exact delF_len M x
theorem chF_sub (d : Bool) (M : List RL.R) (x : RL.R) : ∀ y ∈ chF d M x, y ∈ M ∨ y = x := by
  cases d
  · exact insF_sub M x
  · exact delF_sub M x
theorem chF_ss (d : Bool) (M : List RL.R) (x : RL.R) (h : RL.SS M) : RL.SS (chF d M x) := by
  cases d
  · exact h.ins x
  · exact h.del x

/-- What Insert or Delete of the relation leaves, in one form. -/
def ChPost (d : Bool) (P : Nat → Prop) (w : World) (n : Int) (X : List RL.R) (x : RL.R) (e : Ending) (w' : World) : Prop :=
  (wrongF n x ≠ 0 → e = .returned (.tuple #[.agg #[.int .i64 0, .slice none 0 0], .bool false, .int .i64 (wrongF n x)])) ∧ (wrongF n x = 0 → ∃ A C, e = .returned (.tuple #[.agg #[.int .i64 n, .slice A (chF d X x).length C], .bool (decide (x ∈ X) == d), .int .i64 0]) ∧ (chF d X x).length ≤ C ∧ C ≤ 9223372036854775807 ∧ SlRsP P w'.heap.size w' A (chF d X x)) ∧ Below w.heap.size w w'
theorem chTrue (P : Nat → Prop) (n : Int) (RA A : Option Addr) (RC C : Nat) (X : List RL.R) (x : RL.R) (w : World) (hX : SlRsP P w.heap.size w RA X) (hPn : ∀ b, w.heap.size ≤ b → P b) (hx : SlR w.heap.size w A x) (hXo : RsOk X) (hxo : ROk x) (hXl : X.length ≤ 60000) (hS : RL.SS X) (hXc : X.length ≤ RC) (hXm : RC ≤ 9223372036854775807) :
    Calls Try.prog 39 #[.agg #[.int .i64 n, .slice RA X.length RC], .slice A x.length C] w (ChPost true P w n X x) := by
  refine (rlDelete_any P n RA A RC C X x w hX hPn hx hXo hxo hXl hS hXc hXm).mono ?_
  rintro e w' ⟨h1, h2, h3⟩
  refine ⟨h1, fun h => ?_, h3⟩
  obtain ⟨v, rfl, A5, C5, rfl, h5, h6, h7⟩ := h2 h
  exact ⟨A5, C5, by simp [chF], h5, h6, h7⟩
theorem chFalse (P : Nat → Prop) (n : Int) (RA A : Option Addr) (RC C : Nat) (X : List RL.R) (x : RL.R) (w : World) (hX : SlRsP P w.heap.size w RA X) (hPn : ∀ b, w.heap.size ≤ b → P b) (hx : SlR w.heap.size w A x) (hXo : RsOk X) (hxo : ROk x) (hXl : X.length ≤ 60000) (hS : RL.SS X) (hXc : X.length ≤ RC) (hXm : RC ≤ 9223372036854775807) :
    Calls Try.prog 32 #[.agg #[.int .i64 n, .slice RA X.length RC], .slice A x.length C] w (ChPost false P w n X x) := by
  refine (rlInsert_any P n RA A RC C X x w hX hPn hx hXo hxo hXl hS hXc hXm).mono ?_
  rintro e w' ⟨h1, h2, h3⟩
  refine ⟨h1, fun h => ?_, h3⟩
  obtain ⟨v, rfl, A5, C5, rfl, h5, h6, h7⟩ := h2 h
  exact ⟨A5, C5, by simp [chF], h5, h6, h7⟩
/-- What a round of RelationChanges knows of the memory behind the conversion of its row. -/
def ChAt (w : World) (rb q n : Nat) (d : Bool) (A1 RA MA A3 : Option Addr) (C1 RC C3 : Nat) (M : List RL.R) (x : RL.R) (W : World) : Prop :=
  Row W rb 29 [.int .i64 n, .slice RA M.length RC] ∧ Row W q 76 [.bool d, .slice A1 x.length C1] ∧ SlRsP (fun b => b ≠ rb) W.heap.size W MA M ∧ SlRsP (fun b => b ≠ rb) W.heap.size W RA M ∧ HR (fun b => b ≠ rb) W.heap.size W (.slice A3 x.length C3) x ∧ Below w.heap.size w W
theorem ChAt.up {w : World} {rb q n : Nat} {d : Bool} {A1 RA MA A3 : Option Addr} {C1 RC C3 : Nat} {M : List RL.R} {x : RL.R} {W W' : World} (h : ChAt w rb q n d A1 RA MA A3 C1 RC C3 M x W) (hb : Below W.heap.size W W') : ChAt w rb q n d A1 RA MA A3 C1 RC C3 M x W' := by
  obtain ⟨h1, h2, h3, h4, h5, h6⟩ := h
  exact ⟨h1.up hb, h2.up hb, h3.upB hb, h4.upB hb, h5.upB hb, Below.then h6 hb h6.size⟩

set_option maxHeartbeats 4000000 in
set_option maxRecDepth 100000 in
theorem changes_walk (ar : Nat) (A : Option Addr) (C : Nat) (acts : List (Bool × RL.R)) (w : World) (har : ar < 256) (hA : SlActs w.heap.size w A acts) (hbl : acts.length * 24 ≤ 140737488351232) (hbig : ∀ a ∈ acts, BigR a.2) :
    Calls Try.prog 9 #[.int .u8 ar, .slice A acts.length C] w fun e w' => e = .returned (.bool true) ∧ Below w.heap.size w w' := by
  have HA := Lib.hid hA
  have HBIG := Lib.hid hbig
  have HWD := Lib.hid (l7width_ex ar w har)
  clear hA hbig har
  go_enter Try.func9, Try.ntmps9
  go_wp2_with fail
  refine HWD.out.mono ?_
  rintro e w0 ⟨n, hn4, rfl, rfl⟩
  clear HWD
  go_wp2
  go_loopw [6, 25] (fun v i wr => ∃ k : Nat, k ≤ acts.length ∧ i = .int .i64 k ∧ OwnRs wr w.heap.size 24 v ((acts.take k).map (·.2)) ∧ Below w.heap.size w wr) (fun _ i _ => acts.length - (intOf i).toNat)
  case atStart => exact ⟨0, Nat.zero_le _, rfl, OwnRs.nil _ _ _, Below.refl _ _⟩
  case round =>
    obtain ⟨k, hka, rfl, hown, hbel⟩ := hrel
    have HO := Lib.hid hown
    have HB := Lib.hid hbel
    have hzz := hbel.size
    clear hown
    by_cases h1 : k < acts.length
    · obtain ⟨b, o, A1, C1, rfl, hb, c0, c1, hcap, hcm, s1⟩ := HA.out k h1
      have d0 := (hbel.cell (p := ⟨b, o + k * 2, none⟩) hb).trans c0
      have d1 := (hbel.cell (p := ⟨b, o + k * 2 + 1, none⟩) hb).trans c1
      have HS1 := Lib.hid (s1.below hbel (Nat.le_refl _))
      have HN := Lib.hid (map_snoc (·.2) acts k h1)
      have hlF : ((acts.take k).map (·.2)).length ≤ acts.length := by simp; omega
      clear c0 c1 s1 hbel
      generalize acts[k].1 = d at *
      generalize acts[k].2 = x at *
      generalize (acts.take k).map (·.2) = F at HO HN hlF
      have HB1 := Lib.hid ((HB.out.alloc hzz (.cells #[.bool d, .slice A1 x.length C1] 76)).alloc (by simp; omega) (.cells #[.slice A1 x.length C1] 24))
      have HO1 := Lib.hid (HO.out.keep (((Below.refl _ wr).alloc (Nat.le_refl _) (.cells #[.bool d, .slice A1 x.length C1] 76)).alloc (by simp) (.cells #[.slice A1 x.length C1] 24)))
      have HS2 := Lib.hid ((HS1.out.below (((Below.refl w.heap.size wr).alloc hzz (.cells #[.bool d, .slice A1 x.length C1] 76)).alloc (by simp; omega) (.cells #[.slice A1 x.length C1] 24)) (Nat.le_refl _)))
      go_wp2_with (at_builtin; refine app1Row rfl (.tmp 29) (.tmp 32) rfl w.heap.size u6 F rfl HO1.out (wr.heap.size + 1) A1 C1 x rfl (by go_simp) (HS2.out.more (by simp; omega)) hcap hcm (HS2.out.apart HO1.out.base) (by omega) (by simp; omega) ?_
                   intro v4 w4 hown4 hg4
                   have HO4 := Lib.hid hown4
                   have HB4 := Lib.hid (Below.then HB1.out (app_grown (B := w.heap.size) hg4 HO1.out.base (by simp; omega)) (Nat.le_refl _))
                   clear hown4 hg4 d0 d1)
      go_roundw
      case rel => exact ⟨k + 1, by omega, by go_num, by rw [HN.out]; exact HO4.out, HB4.out⟩
      case measure => simp [intOf]; omega
    · have HT : Hid ((acts.take k).map (·.2) = acts.map (·.2)) := by show _ = _; rw [List.take_of_length_le (show acts.length ≤ k by omega)]
      rw [HT.out] at HO
      have hmem : ∀ x ∈ acts.map (·.2), BigR x := fun x hx => by
        obtain ⟨a, ha, rfl⟩ := List.mem_map.1 hx
        exact HBIG.out a ha
      have HML : Hid ((acts.map (·.2)).length = acts.length) := by show _ = _; simp
      have HMEM : Hid (∀ i (h : i < acts.length), acts[i].2 ∈ acts.map (·.2)) := fun i h => List.mem_map.2 ⟨_, List.getElem_mem h, rfl⟩
      generalize acts.map (·.2) = X at *
      obtain ⟨XA, XC, rfl, hXc, hXm, hXs⟩ := HO.out.sl
      have hlX : X.length ≤ 9223372036854775807 := by have := HML.out; omega
      have HG := Lib.hid (l7Great_any XA XC X wr hXs hlX hmem)
      clear hbel HO HT hmem hXs
      go_wp2_with fail
      refine HG.out.mono ?_
      rintro e w1 ⟨rfl, hx1⟩
      have HB1 := Lib.hid (Below.then HB.out hx1.below hzz)
      clear hx1 HG HB
      cases hgr : greatF X
      rotate_left
      · clear hgr
        go_wp2_with fail
        refine (l7awake_any _).mono ?_
        rintro e w5 ⟨rfl, hb5⟩
        have HB5 := Lib.hid (Below.then HB1.out hb5 HB1.out.size)
        clear hb5
        go_wp2
        go_ret
        exact ⟨rfl, HB5.out⟩
      obtain ⟨g1, g2, -⟩ := greatF_false hgr
      have HOK : Hid (∀ i (h : i < acts.length), ROk acts[i].2) := fun i h => g2 _ (HMEM.out i h)
      have hal : acts.length ≤ 40 := by have := HML.out; omega
      clear g1 g2 hgr HML HMEM hlX hXc hXm
      go_wp2_with fail
      refine (rlNew_ok (n : Int) w1 (by omega) (by omega)).mono ?_
      rintro e w2 ⟨rfl, hx2⟩
      have HB2 := Lib.hid ((Below.then HB1.out hx2.below HB1.out.size).alloc (by have := hx2.size; have := HB1.out.size; omega) (.cells #[.int .i64 n, .slice none 0 0] 29))
      have HRB := Lib.hid (Row.new w2 29 [.int .i64 n, .slice none 0 0])
      have hzb : w.heap.size ≤ w2.heap.size := Nat.le_trans HB1.out.size hx2.size
      clear hx2 HB1
      go_wp2
      have hzr := HRB.out.lt
      generalize hrb : w2.heap.size = rb at *
      generalize w2.alloc (.cells #[.int .i64 n, .slice none 0 0] 29) = W2 at *
      clear hrb
      clear hka hzz h1 
      go_loopw [11, 47] (fun v i wr => ∃ k : Nat, k ≤ acts.length ∧ i = .int .i64 k ∧ ChInv w rb n k v wr) (fun _ i _ => acts.length - (intOf i).toNat)
      case atStart => exact ⟨0, Nat.zero_le _, rfl, [], none, none, 0, 0, rfl, Nat.le_refl _, by omega, SlRsP.nil, HRB.out, Nat.le_refl _, by omega, SlRsP.nil, Nat.le_refl _, RL.ss_nil, (fun y hy => by cases hy), HB2.out⟩
      case round =>
        obtain ⟨k, hka, rfl, M, RA, MA, RC, MC, rfl, hmc, hmm, hMs, hrow, hrc, hrm, hRs, hMl, hSS, hMo, hbel⟩ := hrel
        have HMS := Lib.hid hMs
        have HRS := Lib.hid hRs
        have HROW := Lib.hid hrow
        have HSS := Lib.hid hSS
        have HMO := Lib.hid hMo
        have HB := Lib.hid hbel
        have hzz := hbel.size
        have hrz := hrow.lt
        clear hMs hRs hrow hSS hMo HB2 HRB
        by_cases h1 : k < acts.length
        rotate_left
        · go_wp2_with fail
          refine (l7awake_any _).mono ?_
          rintro e w5 ⟨rfl, hb5⟩
          have HB5 := Lib.hid (Below.then HB.out hb5 HB.out.size)
          clear hb5
          go_wp2
          go_ret
          exact ⟨rfl, HB5.out⟩
        obtain ⟨b, o, A1, C1, rfl, hb, c0, c1, hcap, hcm, s1⟩ := HA.out k h1
        have d0 := (hbel.cell (p := ⟨b, o + k * 2, none⟩) hb).trans c0
        have d1 := (hbel.cell (p := ⟨b, o + k * 2 + 1, none⟩) hb).trans c1
        have HS1 := Lib.hid ((s1.below hbel (Nat.le_refl _)).more hzz)
        have HXO := Lib.hid (HOK.out k h1)
        clear c0 c1 s1 hbel
        generalize acts[k].1 = d at *
        generalize acts[k].2 = x at *
        have hB1 := (Below.refl wr.heap.size wr).alloc (Nat.le_refl _) (.cells #[.bool d, .slice A1 x.length C1] 76)
        have HQ1 := Lib.hid (Row.new wr 76 [.bool d, .slice A1 x.length C1])
        have HROW1 := Lib.hid (HROW.out.up hB1)
        have HMS1 := Lib.hid (HMS.out.upB hB1)
        have HRS1 := Lib.hid (HRS.out.upB hB1)
        have HS11 := Lib.hid (HS1.out.upB hB1)
        have HB1 := Lib.hid (Below.then HB.out hB1 hzz)
        have hz1 : wr.heap.size < (wr.alloc (.cells #[.bool d, .slice A1 x.length C1] 76)).heap.size := by simp
        clear hB1 HROW HMS HRS HS1 HB
        go_wp2_with fail
        generalize wr.alloc (.cells #[.bool d, .slice A1 x.length C1] 76) = W1 at *
        generalize wr.heap.size = q at *
        refine (l7Row_any A1 C1 x W1 HS11.out HXO.out.1).mono ?_
        rintro e w3 ⟨v3, rfl, hown3, hb3⟩
        obtain ⟨-, A3, C3, rfl, hc3, hm3, hs3, hfr3⟩ := SlR.of_own hown3
        have hz3 := hb3.size
        have HAT3 : Hid (ChAt w rb q n d A1 RA MA A3 C1 RC C3 M x w3) := ⟨HROW1.out.up hb3, HQ1.out.up hb3, HMS1.out.upB hb3, HRS1.out.upB hb3, ⟨A3, C3, rfl, hc3, hm3, hs3, fun _ ad e => by have := hfr3 ad e; show _ ≠ _; omega⟩, Below.then HB1.out hb3 HB1.out.size⟩
        have HS13 := Lib.hid (HS11.out.upB hb3)
        have hzw : w.heap.size ≤ w3.heap.size := HAT3.out.2.2.2.2.2.size
        have hq0 : q < w3.heap.size := HAT3.out.2.1.lt
        have hqb : rb < w3.heap.size := HAT3.out.1.lt
        clear hb3 hs3 hfr3 hown3 HQ1 HROW1 HMS1 HRS1 HS11 HB1 hz1 hz3 d0 d1
        have hB3 : Below w3.heap.size w3 (w3.alloc (.cells #[.int .i64 0, .slice none 0 0] 29)) := (Below.refl w3.heap.size w3).alloc (Nat.le_refl _) (.cells #[.int .i64 0, .slice none 0 0] 29)
        have HQ2 := Lib.hid (Row.new w3 29 [.int .i64 0, .slice none 0 0])
        obtain ⟨W3, hW3⟩ : ∃ W3, W3 = w3.alloc (.cells #[.int .i64 0, .slice none 0 0] 29) := ⟨_, rfl⟩
        rw [← hW3] at hB3 HQ2
        have hz33 : w3.heap.size < W3.heap.size := HQ2.out.lt
        have HB3 := Lib.hid hB3
        have HW3 := Lib.hid hW3
        clear hW3 hB3
        have r0 : w3.cell? ⟨rb, 0, none⟩ = some (.int .i64 n) := HAT3.out.1.cell 0
        have r1 : w3.cell? ⟨rb, 1, none⟩ = some (.slice RA M.length RC) := HAT3.out.1.cell 1
        have p1 : w3.cell? ⟨q, 1, none⟩ = some (.slice A1 x.length C1) := HAT3.out.2.1.cell 1
        cases d
        · have p0 : w3.cell? ⟨q, 0, none⟩ = some (.bool false) := HAT3.out.2.1.cell 0
          have HCALL := Lib.hid (chFalse (fun b => b ≠ rb ∧ b ≠ w3.heap.size) (n : Int) RA A1 RC C1 M x W3 (((HAT3.out.2.2.2.1).weak (P' := fun b => b ≠ rb ∧ b ≠ w3.heap.size) (fun b hb h => ⟨h, by omega⟩)).upB HB3.out) (fun b hb => ⟨by omega, by omega⟩) (HS13.out.upB HB3.out) HMO.out HXO.out (by omega) HSS.out hrc hrm)
          go_wp2_with fail
          rw [← HW3.out]
          refine HCALL.out.mono ?_
          rintro e w4 ⟨hwr, hok, hb4⟩
          have hk4 : Below w3.heap.size w3 w4 := Below.then HB3.out hb4 (by omega)
          have hq4 := HQ2.out.up hb4
          have c0 : w4.cell? ⟨w3.heap.size, 0, none⟩ = some (.int .i64 0) := hq4.cell 0
          have c1 : w4.cell? ⟨w3.heap.size, 1, none⟩ = some (.slice none 0 0) := hq4.cell 1
          have f0 := hq4.frozen 0
          have f1 := hq4.frozen 1
          clear HCALL r0 r1 p0 p1
          by_cases hw : wrongF n x = 0
          rotate_left
          · obtain rfl := hwr hw
            obtain ⟨W4, hW4⟩ : ∃ W4, W4 = (w4.setCell ⟨w3.heap.size, 0, none⟩ (.int .i64 0)).setCell ⟨w3.heap.size, 1, none⟩ (.slice none 0 0) := ⟨_, rfl⟩
            have HAT4 : Hid (ChAt w rb q n false A1 RA MA A3 C1 RC C3 M x W4) := HAT3.out.up (by rw [hW4]; exact (hk4.setCell (p := ⟨w3.heap.size, 0, none⟩) (Nat.le_refl _) _).setCell (p := ⟨w3.heap.size, 1, none⟩) (Nat.le_refl _) _)
            have HNX4 : Hid (Row W4 w3.heap.size 29 [.int .i64 0, .slice none 0 0]) := by rw [hW4]; exact hq4.set2 _ _
            have HW4 := Lib.hid hW4
            clear hW4 hwr hok hb4 hk4 hq4
            obtain ⟨c, hc⟩ : ∃ c, c = wrongF n x := ⟨_, rfl⟩
            have hc2 : (c != 0) = true := by rw [hc]; simpa using hw
            rw [← hc]
            have HC := Lib.hid hc
            clear hc hw
            go_wp2_with fail
            rw [← HW4.out]
            refine (r7Wrong_any (n : Int) A3 C3 x W4 HAT4.out.2.2.2.2.1.sl HXO.out).mono ?_
            rintro e w5 ⟨rfl, hx5⟩
            rw [← HC.out]
            have HAT5 := Lib.hid (HAT4.out.up hx5.below)
            have hn5 := HNX4.out.up hx5.below
            have n0 : w5.cell? ⟨w3.heap.size, 0, none⟩ = some (.int .i64 0) := hn5.cell 0
            have n1 : w5.cell? ⟨w3.heap.size, 1, none⟩ = some (.slice none 0 0) := hn5.cell 1
            clear HAT4 HNX4 hx5 c0 c1 f0 f1 hn5
            go_wp2_with fail
            refine (l7Is_nil 0 none 0 w5).mono ?_
            rintro e w6 ⟨rfl, hb6⟩
            have HAT6 := Lib.hid (HAT5.out.up hb6)
            clear HAT5 hb6 n0 n1
            go_wp2
            go_roundw
            case rel => exact ⟨k + 1, by omega, by go_num, M, RA, MA, RC, MC, rfl, hmc, hmm, HAT6.out.2.2.1, HAT6.out.1, hrc, hrm, HAT6.out.2.2.2.1, by omega, HSS.out, HMO.out, HAT6.out.2.2.2.2.2⟩
            case measure => simp [intOf]; omega
          · obtain ⟨A5, C5, rfl, h5a, h5b, h5c⟩ := hok hw
            have HYL := Lib.hid (chF_len false M x)
            have HYS := Lib.hid (chF_ss false M x HSS.out)
            have HYO : Hid (RsOk (chF false M x)) := fun y hy => by
              rcases chF_sub false M x y hy with h | h
              · exact HMO.out y h
              · rw [h]; exact HXO.out
            obtain ⟨Y, hY⟩ : ∃ Y, Y = chF false M x := ⟨_, rfl⟩
            rw [← hY] at h5a h5c HYL HYS HYO
            rw [← hY]
            have HY := Lib.hid hY
            obtain ⟨W4, hW4⟩ : ∃ W4, W4 = (w4.setCell ⟨w3.heap.size, 0, none⟩ (.int .i64 n)).setCell ⟨w3.heap.size, 1, none⟩ (.slice A5 Y.length C5) := ⟨_, rfl⟩
            have HAT4 : Hid (ChAt w rb q n false A1 RA MA A3 C1 RC C3 M x W4) := HAT3.out.up (by rw [hW4]; exact (hk4.setCell (p := ⟨w3.heap.size, 0, none⟩) (Nat.le_refl _) _).setCell (p := ⟨w3.heap.size, 1, none⟩) (Nat.le_refl _) _)
            have HNX4 : Hid (Row W4 w3.heap.size 29 [.int .i64 n, .slice A5 Y.length C5]) := by rw [hW4]; exact hq4.set2 _ _
            have HNS4 : Hid (SlRsP (fun b => b ≠ rb) W4.heap.size W4 A5 Y) := by
              rw [hW4]
              have h := (h5c.keep (w' := (w4.setCell ⟨w3.heap.size, 0, none⟩ (.int .i64 n)).setCell ⟨w3.heap.size, 1, none⟩ (.slice A5 Y.length C5)) (fun p hp hne => far_cell (p := ⟨w3.heap.size, 1, none⟩) (fun e => hne.2 e.symm) (far_cell (p := ⟨w3.heap.size, 0, none⟩) (fun e => hne.2 e.symm) rfl))).weak (P' := fun b => b ≠ rb) (fun b _ h => h.1)
              show SlRsP _ _ _ _ _
              simpa using h
            have HW4 := Lib.hid hW4
            obtain ⟨qq, hqq⟩ : ∃ qq, qq = decide (x ∈ M) := ⟨_, rfl⟩
            rw [← hqq]
            have HQQ := Lib.hid hqq
            have HW := Lib.hid hw
            clear hW4 hwr hok hb4 hk4 hq4 h5c hY hqq hw
            go_wp2_with fail
            rw [← HW4.out]
            refine (r7Wrong_any (n : Int) A3 C3 x W4 HAT4.out.2.2.2.2.1.sl HXO.out).mono ?_
            rintro e w5 ⟨rfl, hx5⟩
            rw [HW.out]
            have HAT5 := Lib.hid (HAT4.out.up hx5.below)
            have HNX5 := Lib.hid (HNX4.out.up hx5.below)
            have HNS5 := Lib.hid (HNS4.out.upB hx5.below)
            clear HAT4 HNX4 HNS4 hx5 c0 c1 f0 f1
            go_wp2_with fail
            refine (r7Search_any MA A3 MC C3 M x w5 HAT5.out.2.2.1.sl HAT5.out.2.2.2.2.1.sl (by omega) HMO.out HXO.out).mono ?_
            rintro e w6 ⟨rfl, hx6⟩
            rw [← HQQ.out]
            have HAT6 := Lib.hid (HAT5.out.up hx6.below)
            have HNX6 := Lib.hid (HNX5.out.up hx6.below)
            have HNS6 := Lib.hid (HNS5.out.upB hx6.below)
            clear HAT5 HNX5 HNS5 hx6
            generalize RL.rank M x = rk at *
            go_wp2_with fail
            refine (r7Insert_P (fun b => b ≠ rb) MA A3 MC C3 M x w6 HAT6.out.2.2.1 (fun b hb => by have := HAT6.out.1.lt; show _ ≠ _; omega) HAT6.out.2.2.2.2.1 (by omega) HMO.out HXO.out hmc hmm).mono ?_
            rintro e w7 ⟨v7, rfl, hr7, hb7⟩
            have HAT7 := Lib.hid (HAT6.out.up hb7)
            have HNX7 := Lib.hid (HNX6.out.up hb7)
            have HNS7 := Lib.hid (HNS6.out.upB hb7)
            clear HAT6 HNX6 HNS6 hb7
            have HAT8 := HAT7
            have HNX8 := HNX7
            have HNS8 := HNS7
            obtain ⟨w8, hw8⟩ : ∃ w8, w8 = w7 := ⟨_, rfl⟩
            rw [← hw8] at HAT8 HNX8 HNS8 hr7
            rw [← hw8]
            clear HAT7 HNX7 HNS7 hw8
            have hr9 : RowsP (fun b => b ≠ rb) w8 Y v7 := by rw [HY.out]; exact hr7
            obtain ⟨WA, WC, rfl, hwa, hwb, hws⟩ := hr9
            have HWS := Lib.hid hws
            clear hr7 hws
            have p0 : w8.cell? ⟨q, 0, none⟩ = some (.bool false) := HAT8.out.2.1.cell 0
            have n0 : w8.cell? ⟨w3.heap.size, 0, none⟩ = some (.int .i64 n) := HNX8.out.cell 0
            have n1 : w8.cell? ⟨w3.heap.size, 1, none⟩ = some (.slice A5 Y.length C5) := HNX8.out.cell 1
            have hyl := HYL.out
            have HIS := Lib.hid (l7Is_ok (n : Int) A5 WA C5 WC Y w8 HNS8.out.sl HWS.out.sl HYO.out (by omega))
            cases qq
            all_goals
              go_wp2_with fail
              refine HIS.out.mono ?_
              rintro e w9 ⟨rfl, hb9⟩
              have HAT9 := Lib.hid (HAT8.out.up hb9)
              have HNX9 := Lib.hid (HNX8.out.up hb9)
              have HNS9 := Lib.hid (HNS8.out.upB hb9)
              have HWS9 := Lib.hid (HWS.out.upB hb9)
              clear HAT8 HNX8 HNS8 HWS hb9 p0 n0 n1 HIS
              have r0 : w9.cell? ⟨rb, 0, none⟩ = some (.int .i64 n) := HAT9.out.1.cell 0
              have r1 : w9.cell? ⟨rb, 1, none⟩ = some (.slice RA M.length RC) := HAT9.out.1.cell 1
              go_wp2_with fail
              refine (l7Is_ok (n : Int) RA MA RC MC M w9 HAT9.out.2.2.2.1.sl HAT9.out.2.2.1.sl HMO.out (by omega)).mono ?_
              rintro e w10 ⟨rfl, hb10⟩
              have HAT10 := Lib.hid (HAT9.out.up hb10)
              have HNX10 := Lib.hid (HNX9.out.up hb10)
              have HNS10 := Lib.hid (HNS9.out.upB hb10)
              have HWS10 := Lib.hid (HWS9.out.upB hb10)
              clear HAT9 HNX9 HNS9 HWS9 hb10 r0 r1
              have r0 : w10.cell? ⟨rb, 0, none⟩ = some (.int .i64 n) := HAT10.out.1.cell 0
              have r1 : w10.cell? ⟨rb, 1, none⟩ = some (.slice RA M.length RC) := HAT10.out.1.cell 1
              have f0 := HAT10.out.1.frozen 0
              have f1 := HAT10.out.1.frozen 1
              have n0 : w10.cell? ⟨w3.heap.size, 0, none⟩ = some (.int .i64 n) := HNX10.out.cell 0
              have n1 : w10.cell? ⟨w3.heap.size, 1, none⟩ = some (.slice A5 Y.length C5) := HNX10.out.cell 1
              have hz10 : w3.heap.size < w10.heap.size := HNX10.out.lt
              have HKP : Hid (∀ p : Addr, p.block < w10.heap.size → p.block ≠ rb → ((w10.setCell ⟨rb, 0, none⟩ (.int .i64 n)).setCell ⟨rb, 1, none⟩ (.slice A5 Y.length C5)).cell? p = w10.cell? p) := fun p hp hne => far_cell (p := ⟨rb, 1, none⟩) (fun e => hne e.symm) (far_cell (p := ⟨rb, 0, none⟩) (fun e => hne e.symm) rfl)
              have HF : Hid (ChInv w rb n (k + 1) (.slice WA Y.length WC) ((w10.setCell ⟨rb, 0, none⟩ (.int .i64 n)).setCell ⟨rb, 1, none⟩ (.slice A5 Y.length C5))) :=
                ⟨Y, A5, WA, C5, WC, rfl, hwa, hwb, by simpa using HWS10.out.keep HKP.out, HAT10.out.1.set2 _ _, h5a, h5b, by simpa using HNS10.out.keep HKP.out, by omega, HYS.out, HYO.out, (HAT10.out.2.2.2.2.2.setCell (p := ⟨rb, 0, none⟩) hzb _).setCell (p := ⟨rb, 1, none⟩) hzb _⟩
              go_wp2
              go_roundw
              case rel => exact ⟨k + 1, by omega, by go_num, HF.out⟩
              case measure => simp [intOf]; omega
        · have p0 : w3.cell? ⟨q, 0, none⟩ = some (.bool true) := HAT3.out.2.1.cell 0
          have HCALL := Lib.hid (chTrue (fun b => b ≠ rb ∧ b ≠ w3.heap.size) (n : Int) RA A1 RC C1 M x W3 (((HAT3.out.2.2.2.1).weak (P' := fun b => b ≠ rb ∧ b ≠ w3.heap.size) (fun b hb h => ⟨h, by omega⟩)).upB HB3.out) (fun b hb => ⟨by omega, by omega⟩) (HS13.out.upB HB3.out) HMO.out HXO.out (by omega) HSS.out hrc hrm)
          go_wp2_with fail
          rw [← HW3.out]
          refine HCALL.out.mono ?_
          rintro e w4 ⟨hwr, hok, hb4⟩
          have hk4 : Below w3.heap.size w3 w4 := Below.then HB3.out hb4 (by omega)
          have hq4 := HQ2.out.up hb4
          have c0 : w4.cell? ⟨w3.heap.size, 0, none⟩ = some (.int .i64 0) := hq4.cell 0
          have c1 : w4.cell? ⟨w3.heap.size, 1, none⟩ = some (.slice none 0 0) := hq4.cell 1
          have f0 := hq4.frozen 0
          have f1 := hq4.frozen 1
          clear HCALL r0 r1 p0 p1
          by_cases hw : wrongF n x = 0
          rotate_left
          · obtain rfl := hwr hw
            obtain ⟨W4, hW4⟩ : ∃ W4, W4 = (w4.setCell ⟨w3.heap.size, 0, none⟩ (.int .i64 0)).setCell ⟨w3.heap.size, 1, none⟩ (.slice none 0 0) := ⟨_, rfl⟩
            have HAT4 : Hid (ChAt w rb q n true A1 RA MA A3 C1 RC C3 M x W4) := HAT3.out.up (by rw [hW4]; exact (hk4.setCell (p := ⟨w3.heap.size, 0, none⟩) (Nat.le_refl _) _).setCell (p := ⟨w3.heap.size, 1, none⟩) (Nat.le_refl _) _)
            have HNX4 : Hid (Row W4 w3.heap.size 29 [.int .i64 0, .slice none 0 0]) := by rw [hW4]; exact hq4.set2 _ _
            have HW4 := Lib.hid hW4
            clear hW4 hwr hok hb4 hk4 hq4
            obtain ⟨c, hc⟩ : ∃ c, c = wrongF n x := ⟨_, rfl⟩
            have hc2 : (c != 0) = true := by rw [hc]; simpa using hw
            rw [← hc]
            have HC := Lib.hid hc
            clear hc hw
            go_wp2_with fail
            rw [← HW4.out]
            refine (r7Wrong_any (n : Int) A3 C3 x W4 HAT4.out.2.2.2.2.1.sl HXO.out).mono ?_
            rintro e w5 ⟨rfl, hx5⟩
            rw [← HC.out]
            have HAT5 := Lib.hid (HAT4.out.up hx5.below)
            have hn5 := HNX4.out.up hx5.below
            have n0 : w5.cell? ⟨w3.heap.size, 0, none⟩ = some (.int .i64 0) := hn5.cell 0
            have n1 : w5.cell? ⟨w3.heap.size, 1, none⟩ = some (.slice none 0 0) := hn5.cell 1
            clear HAT4 HNX4 hx5 c0 c1 f0 f1 hn5
            go_wp2_with fail
            refine (l7Is_nil 0 none 0 w5).mono ?_
            rintro e w6 ⟨rfl, hb6⟩
            have HAT6 := Lib.hid (HAT5.out.up hb6)
            clear HAT5 hb6 n0 n1
            go_wp2
            go_roundw
            case rel => exact ⟨k + 1, by omega, by go_num, M, RA, MA, RC, MC, rfl, hmc, hmm, HAT6.out.2.2.1, HAT6.out.1, hrc, hrm, HAT6.out.2.2.2.1, by omega, HSS.out, HMO.out, HAT6.out.2.2.2.2.2⟩
            case measure => simp [intOf]; omega
          · obtain ⟨A5, C5, rfl, h5a, h5b, h5c⟩ := hok hw
            have HYL := Lib.hid (chF_len true M x)
            have HYS := Lib.hid (chF_ss true M x HSS.out)
            have HYO : Hid (RsOk (chF true M x)) := fun y hy => by
              rcases chF_sub true M x y hy with h | h
              · exact HMO.out y h
              · rw [h]; exact HXO.out
            obtain ⟨Y, hY⟩ : ∃ Y, Y = chF true M x := ⟨_, rfl⟩
            rw [← hY] at h5a h5c HYL HYS HYO
            rw [← hY]
            have HY := Lib.hid hY
            obtain ⟨W4, hW4⟩ : ∃ W4, W4 = (w4.setCell ⟨w3.heap.size, 0, none⟩ (.int .i64 n)).setCell ⟨w3.heap.size, 1, none⟩ (.slice A5 Y.length C5) := ⟨_, rfl⟩
            have HAT4 : Hid (ChAt w rb q n true A1 RA MA A3 C1 RC C3 M x W4) := HAT3.out.up (by rw [hW4]; exact (hk4.setCell (p := ⟨w3.heap.size, 0, none⟩) (Nat.le_refl _) _).setCell (p := ⟨w3.heap.size, 1, none⟩) (Nat.le_refl _) _)
            have HNX4 : Hid (Row W4 w3.heap.size 29 [.int .i64 n, .slice A5 Y.length C5]) := by rw [hW4]; exact hq4.set2 _ _
            have HNS4 : Hid (SlRsP (fun b => b ≠ rb) W4.heap.size W4 A5 Y) := by
              rw [hW4]
              have h := (h5c.keep (w' := (w4.setCell ⟨w3.heap.size, 0, none⟩ (.int .i64 n)).setCell ⟨w3.heap.size, 1, none⟩ (.slice A5 Y.length C5)) (fun p hp hne => far_cell (p := ⟨w3.heap.size, 1, none⟩) (fun e => hne.2 e.symm) (far_cell (p := ⟨w3.heap.size, 0, none⟩) (fun e => hne.2 e.symm) rfl))).weak (P' := fun b => b ≠ rb) (fun b _ h => h.1)
              show SlRsP _ _ _ _ _
              simpa using h
            have HW4 := Lib.hid hW4
            obtain ⟨qq, hqq⟩ : ∃ qq, qq = decide (x ∈ M) := ⟨_, rfl⟩
            rw [← hqq]
            have HQQ := Lib.hid hqq
            have HW := Lib.hid hw
            clear hW4 hwr hok hb4 hk4 hq4 h5c hY hqq hw
            go_wp2_with fail
            rw [← HW4.out]
            refine (r7Wrong_any (n : Int) A3 C3 x W4 HAT4.out.2.2.2.2.1.sl HXO.out).mono ?_
            rintro e w5 ⟨rfl, hx5⟩
            rw [HW.out]
            have HAT5 := Lib.hid (HAT4.out.up hx5.below)
            have HNX5 := Lib.hid (HNX4.out.up hx5.below)
            have HNS5 := Lib.hid (HNS4.out.upB hx5.below)
            clear HAT4 HNX4 HNS4 hx5 c0 c1 f0 f1
            go_wp2_with fail
            refine (r7Search_any MA A3 MC C3 M x w5 HAT5.out.2.2.1.sl HAT5.out.2.2.2.2.1.sl (by omega) HMO.out HXO.out).mono ?_
            rintro e w6 ⟨rfl, hx6⟩
            rw [← HQQ.out]
            have HAT6 := Lib.hid (HAT5.out.up hx6.below)
            have HNX6 := Lib.hid (HNX5.out.up hx6.below)
            have HNS6 := Lib.hid (HNS5.out.upB hx6.below)
            clear HAT5 HNX5 HNS5 hx6
            generalize RL.rank M x = rk at *
            go_wp2_with fail
            refine (r7Insert_P (fun b => b ≠ rb) MA A3 MC C3 M x w6 HAT6.out.2.2.1 (fun b hb => by have := HAT6.out.1.lt; show _ ≠ _; omega) HAT6.out.2.2.2.2.1 (by omega) HMO.out HXO.out hmc hmm).mono ?_
            rintro e w7 ⟨v7, rfl, hr7, hb7⟩
            have HAT7 := Lib.hid (HAT6.out.up hb7)
            have HNX7 := Lib.hid (HNX6.out.up hb7)
            have HNS7 := Lib.hid (HNS6.out.upB hb7)
            clear HAT6 HNX6 HNS6 hb7
            clear hr7
            have p0 : w7.cell? ⟨q, 0, none⟩ = some (.bool true) := HAT7.out.2.1.cell 0
            go_wp2_with fail
            refine (r7Delete_P (fun b => b ≠ rb) MA A3 MC C3 M x w7 HAT7.out.2.2.1 (fun b hb => by have := HAT7.out.1.lt; show _ ≠ _; omega) HAT7.out.2.2.2.2.1.sl (by omega) HMO.out HXO.out).mono ?_
            rintro e w8 ⟨v8, rfl, hr8, hb8⟩
            have HAT8 := Lib.hid (HAT7.out.up hb8)
            have HNX8 := Lib.hid (HNX7.out.up hb8)
            have HNS8 := Lib.hid (HNS7.out.upB hb8)
            have hr9 : RowsP (fun b => b ≠ rb) w8 Y v8 := by rw [HY.out]; exact hr8
            obtain ⟨WA, WC, rfl, hwa, hwb, hws⟩ := hr9
            have HWS := Lib.hid hws
            clear HAT7 HNX7 HNS7 hb8 hr8 hws p0
            have p0 : w8.cell? ⟨q, 0, none⟩ = some (.bool true) := HAT8.out.2.1.cell 0
            have n0 : w8.cell? ⟨w3.heap.size, 0, none⟩ = some (.int .i64 n) := HNX8.out.cell 0
            have n1 : w8.cell? ⟨w3.heap.size, 1, none⟩ = some (.slice A5 Y.length C5) := HNX8.out.cell 1
            have hyl := HYL.out
            have HIS := Lib.hid (l7Is_ok (n : Int) A5 WA C5 WC Y w8 HNS8.out.sl HWS.out.sl HYO.out (by omega))
            cases qq
            all_goals
              go_wp2_with fail
              refine HIS.out.mono ?_
              rintro e w9 ⟨rfl, hb9⟩
              have HAT9 := Lib.hid (HAT8.out.up hb9)
              have HNX9 := Lib.hid (HNX8.out.up hb9)
              have HNS9 := Lib.hid (HNS8.out.upB hb9)
              have HWS9 := Lib.hid (HWS.out.upB hb9)
              clear HAT8 HNX8 HNS8 HWS hb9 p0 n0 n1 HIS
              have r0 : w9.cell? ⟨rb, 0, none⟩ = some (.int .i64 n) := HAT9.out.1.cell 0
              have r1 : w9.cell? ⟨rb, 1, none⟩ = some (.slice RA M.length RC) := HAT9.out.1.cell 1
              go_wp2_with fail
              refine (l7Is_ok (n : Int) RA MA RC MC M w9 HAT9.out.2.2.2.1.sl HAT9.out.2.2.1.sl HMO.out (by omega)).mono ?_
              rintro e w10 ⟨rfl, hb10⟩
              have HAT10 := Lib.hid (HAT9.out.up hb10)
              have HNX10 := Lib.hid (HNX9.out.up hb10)
              have HNS10 := Lib.hid (HNS9.out.upB hb10)
              have HWS10 := Lib.hid (HWS9.out.upB hb10)
              clear HAT9 HNX9 HNS9 HWS9 hb10 r0 r1
              have r0 : w10.cell? ⟨rb, 0, none⟩ = some (.int .i64 n) := HAT10.out.1.cell 0
              have r1 : w10.cell? ⟨rb, 1, none⟩ = some (.slice RA M.length RC) := HAT10.out.1.cell 1
              have f0 := HAT10.out.1.frozen 0
              have f1 := HAT10.out.1.frozen 1
              have n0 : w10.cell? ⟨w3.heap.size, 0, none⟩ = some (.int .i64 n) := HNX10.out.cell 0
              have n1 : w10.cell? ⟨w3.heap.size, 1, none⟩ = some (.slice A5 Y.length C5) := HNX10.out.cell 1
              have hz10 : w3.heap.size < w10.heap.size := HNX10.out.lt
              have HKP : Hid (∀ p : Addr, p.block < w10.heap.size → p.block ≠ rb → ((w10.setCell ⟨rb, 0, none⟩ (.int .i64 n)).setCell ⟨rb, 1, none⟩ (.slice A5 Y.length C5)).cell? p = w10.cell? p) := fun p hp hne => far_cell (p := ⟨rb, 1, none⟩) (fun e => hne e.symm) (far_cell (p := ⟨rb, 0, none⟩) (fun e => hne e.symm) rfl)
              have HF : Hid (ChInv w rb n (k + 1) (.slice WA Y.length WC) ((w10.setCell ⟨rb, 0, none⟩ (.int .i64 n)).setCell ⟨rb, 1, none⟩ (.slice A5 Y.length C5))) :=
                ⟨Y, A5, WA, C5, WC, rfl, hwa, hwb, by simpa using HWS10.out.keep HKP.out, HAT10.out.1.set2 _ _, h5a, h5b, by simpa using HNS10.out.keep HKP.out, by omega, HYS.out, HYO.out, (HAT10.out.2.2.2.2.2.setCell (p := ⟨rb, 0, none⟩) hzb _).setCell (p := ⟨rb, 1, none⟩) hzb _⟩
              go_wp2
              go_roundw
              case rel => exact ⟨k + 1, by omega, by go_num, HF.out⟩
              case measure => simp [intOf]; omega

end Go.Proofs.Ytiopkooigeaneaa

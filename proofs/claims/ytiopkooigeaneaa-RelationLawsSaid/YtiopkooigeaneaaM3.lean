/- Walk: the law RelationProjects. -/
import Derived.Test.YtiopkooigeaneaaV18
import Derived.Test.YtiopkooigeaneaaM2
namespace Go.Proofs.Ytiopkooigeaneaa
open Go.RowKit Go.Sort

/-- What relation.Project answers, all cases. -/
def ProjAll (n : Int) (X : List RL.R) (cs : List Int) (n1 : Int) (Y : List RL.R) (ec : Int) : Prop :=
  (32 < cs.length ∧ n1 = 0 ∧ Y = [] ∧ ec = 6) ∨ (cs.length ≤ 32 ∧ colsOk n cs = false ∧ n1 = 0 ∧ Y = [] ∧ ec = 3) ∨ (cs.length ≤ 32 ∧ colsOk n cs = true ∧ n1 = cs.length ∧ Y = RL.ofF (X.map (projF · cs)) ∧ ec = 0)

theorem rlProject_all (n : Int) (RA CA : Option Addr) (RC CC : Nat) (X : List RL.R) (cs : List Int) (w : World) (hX : SlRs w.heap.size w RA X) (hcs : SlI .i64 w.heap.size w CA cs) (hXo : RsOk X) (hXl : X.length ≤ 60000) (hcl : cs.length ≤ 1000) (hlen : ∀ x ∈ X, (x.length : Int) = n) :
    Calls Try.prog 28 #[.agg #[.int .i64 n, .slice RA X.length RC], .slice CA cs.length CC] w fun e w' => ∃ n1 Y A C ec, e = .returned (.tuple #[.agg #[.int .i64 n1, .slice A Y.length C], .int .i64 ec]) ∧ ProjAll n X cs n1 Y ec ∧ SlRs w'.heap.size w' A Y ∧ Below w.heap.size w w' := by
  by_cases h : 32 < cs.length
  · refine (rlProject_arity n RA CA X.length RC cs.length CC w h (by omega)).mono ?_
    rintro e w' ⟨rfl, hb⟩
    exact ⟨0, [], none, 0, 6, rfl, .inl ⟨h, rfl, rfl, rfl⟩, SlRs.nil, hb.below⟩
  · refine (rlProject_any n RA CA RC CC X cs w hX hcs hXo hXl (by omega) hlen).mono ?_
    rintro e w' ⟨h1, h2, hb⟩
    cases he : colsOk n cs
    · rw [h1 he]
      exact ⟨0, [], none, 0, 3, rfl, .inr (.inl ⟨by omega, he, rfl, rfl, rfl⟩), SlRs.nil, hb⟩
    · obtain ⟨v, rfl, A, C, rfl, -, -, hs⟩ := h2 he
      exact ⟨cs.length, _, A, C, 0, rfl, .inr (.inr ⟨by omega, he, rfl, rfl, rfl⟩), hs.sl, hb⟩

theorem validR_len {n : Int} {X : List RL.R} : ∀ x ∈ RL.ofF (validR n X), (x.length : Int) = n := fun x hx => by
  have h := (List.mem_filter.1 ((RL.mem_ofF _ _).1 hx)).2
  simp only [decide_eq_true_eq] at h
  unfold wrongF at h
  split at h
  · simp at h
  · rename_i h1; omega

/-- The law's own error of the first k columns. -/
def wantF (n : Int) (cs : List Int) (k : Nat) : Int := if colsOk n (cs.take k) = true then 0 else 3
theorem wantF_snoc (n : Int) (cs : List Int) (k : Nat) (h : k < cs.length) : wantF n cs (k + 1) = if 0 ≤ cs[k] ∧ cs[k] < n then wantF n cs k else 3 := by
  unfold wantF
  rw [List.take_succ_eq_append_getElem h]
  have e : colsOk n (cs.take k ++ [cs[k]]) = (colsOk n (cs.take k) && (decide (0 ≤ cs[k]) && decide (cs[k] < n))) := by
    unfold colsOk; rw [List.all_append]; simp
  rw [e]
  by_cases h1 : 0 ≤ cs[k] ∧ cs[k] < n
  · rw [if_pos h1]; simp [h1.1, h1.2]
  · rw [if_neg h1, if_neg]
    intro h2
    simp only [Bool.and_eq_true, decide_eq_true_eq] at h2
    exact h1 h2.2

set_option maxHeartbeats 4000000 in
set_option maxRecDepth 100000 in
theorem projects_walk (ar : Nat) (A CA : Option Addr) (C CC : Nat) (X : List RL.R) (cs : List Int) (w : World) (har : ar < 256) (hX : SlRs w.heap.size w A X) (hcs : SlI .i64 w.heap.size w CA cs) (hbX : BigRs X) (hcl : cs.length ≤ 9223372036854775807) :
    Calls Try.prog 5 #[.int .u8 ar, .slice A X.length C, .slice CA cs.length CC] w fun e w' => e = .returned (.bool true) ∧ Below w.heap.size w w' := by
  have HX := Lib.hid hX
  have HCS := Lib.hid hcs
  have HG := Lib.hid (l7Great_any A C X w hX (by have := hbX.1; omega) hbX.2)
  clear hX hbX hcs
  go_enter Try.func5, Try.ntmps5
  go_wp2_with (go_at_call 12; refine (l7width_any ar _ har).mono ?_; rintro e w' ⟨rfl, hw⟩; obtain rfl := hw.symm)
  refine HG.out.mono ?_
  rintro e w1 ⟨rfl, hx1⟩
  have HB1 := Lib.hid hx1.below
  clear hx1 HG
  cases hgr : greatF X
  rotate_left
  · clear hgr
    go_wp2_with fail
    refine (l7awake_any _).mono ?_
    rintro e w5 ⟨rfl, hb5⟩
    have HB5 := Lib.hid (Below.then HB1.out hb5 HB1.out.size)
    clear hb5
    go_wp2
    go_ret
    exact ⟨rfl, HB5.out⟩
  obtain ⟨g1, g2, -⟩ := greatF_false hgr
  have HOK := Lib.hid g2
  clear g2 hgr
  by_cases hc40 : 40 < cs.length
  · have hc40' : decide ((40 : Int) < (cs.length : Int)) = true := by simp; omega
    go_wp2_with fail
    refine (l7awake_any _).mono ?_
    rintro e w5 ⟨rfl, hb5⟩
    have HB5 := Lib.hid (Below.then HB1.out hb5 HB1.out.size)
    clear hb5
    go_wp2
    go_ret
    exact ⟨rfl, HB5.out⟩
  have hc40' : decide ((40 : Int) < (cs.length : Int)) = false := by simp; omega
  go_wp2_with fail
  refine (l7made_any ((ar % 5 : Nat) : Int) A C X w1 (by omega) (by omega) ((HX.out.below HB1.out (Nat.le_refl _)).more HB1.out.size) HOK.out (by omega)).mono ?_
  rintro e w2 ⟨rv, mv, rfl, ⟨RA, RC, rfl, hrc1, hrc2, hrs⟩, ⟨MA, MC, rfl, hmc1, hmc2, hms⟩, hb2⟩
  have hyl := Nat.le_trans (RL.ofF_length_le (validR ((ar % 5 : Nat) : Int) X)) (validR_length _ X)
  have HYO : Hid (RsOk (RL.ofF (validR ((ar % 5 : Nat) : Int) X))) := HOK.out.of_mem (fun y hy => validR_sub _ X y ((RL.mem_ofF _ _).1 hy))
  have HLEN : Hid (∀ x ∈ RL.ofF (validR ((ar % 5 : Nat) : Int) X), (x.length : Int) = ((ar % 5 : Nat) : Int)) := validR_len
  generalize RL.ofF (validR ((ar % 5 : Nat) : Int) X) = Y at *
  have HB2 := Lib.hid (Below.then (Below.then HB1.out hb2 HB1.out.size) ((Below.refl _ w2).alloc (Nat.le_refl _) (.cells #[.int .i64 ((ar : Int) % 5), .slice RA Y.length RC] 29)) (by have := hb2.size; have := HB1.out.size; omega))
  have HRS := Lib.hid (hrs.alloc1 (.cells #[.int .i64 ((ar : Int) % 5), .slice RA Y.length RC] 29))
  have HMS := Lib.hid (hms.alloc1 (.cells #[.int .i64 ((ar : Int) % 5), .slice RA Y.length RC] 29))
  clear hrs hms hb2 HB1 hc40'
  go_wp2_with fail
  generalize w2.alloc (.cells #[.int .i64 ((ar : Int) % 5), .slice RA Y.length RC] 29) = W2 at *
  have HPR := Lib.hid (rlProject_all ((ar % 5 : Nat) : Int) RA CA RC CC Y cs W2 HRS.out ((HCS.out.below HB2.out (Nat.le_refl _)).more HB2.out.size) HYO.out (by omega) (by omega) HLEN.out)
  refine HPR.out.mono ?_
  rintro e w3 ⟨n1, Z, ZA, ZC, ec, rfl, hall, hsZ, hb3⟩
  have HALL := Lib.hid hall
  have HSZ := Lib.hid (hsZ.alloc1 (.cells #[.int .i64 n1, .slice ZA Z.length ZC] 29))
  have HRZ := Lib.hid (Row.new w3 29 [.int .i64 n1, .slice ZA Z.length ZC])
  have HB3 := Lib.hid ((Below.then HB2.out hb3 HB2.out.size).alloc (by have := hb3.size; have := HB2.out.size; omega) (.cells #[.int .i64 n1, .slice ZA Z.length ZC] 29))
  have HMS3 := Lib.hid ((HMS.out.upB hb3).alloc1 (.cells #[.int .i64 n1, .slice ZA Z.length ZC] 29))
  clear hall hsZ hb3 HPR HMS HRS HB2
  go_wp2_with fail
  have hz3 := HRZ.out.lt
  generalize hzb : w3.heap.size = zb at *
  generalize w3.alloc (.cells #[.int .i64 n1, .slice ZA Z.length ZC] 29) = W3 at *
  clear hzb
  go_loopw [13, 41] (fun a m wr => ∃ k : Nat, k ≤ cs.length ∧ m = .int .i64 k ∧ a = .int .i64 (wantF ((ar % 5 : Nat) : Int) cs k) ∧ wr = W3) (fun _ m _ => cs.length - (intOf m).toNat)
  case atStart => exact ⟨0, Nat.zero_le _, rfl, by simp [wantF, colsOk], rfl⟩
  case round =>
    obtain ⟨k, hka, rfl, rfl, hwr⟩ := hrel
    obtain rfl := hwr.symm
    by_cases h1 : k < cs.length
    · obtain ⟨b, o, rfl, hb, q1⟩ := slI_at HCS.out h1
      have e1 := (HB3.out.cell (p := ⟨b, o + k, none⟩) hb).trans q1
      have HW := Lib.hid (wantF_snoc ((ar % 5 : Nat) : Int) cs k h1)
      clear q1 hwr
      generalize cs[k] = c at e1 HW
      generalize wantF ((ar % 5 : Nat) : Int) cs k = q at *
      by_cases g1 : c < 0
      · have HW2 := Lib.hid (HW.out.trans (if_neg (by omega)))
        go_wp2
        go_roundw
        case rel => exact ⟨k + 1, by omega, by go_num, by rw [HW2.out], trivial⟩
        case measure => simp [intOf]; omega
      · have g1' : decide (c < 0) = false := by simpa using g1
        by_cases g2 : (ar : Int) % 5 ≤ c
        · have HW2 := Lib.hid (HW.out.trans (if_neg (by omega)))
          have g2' : decide ((ar : Int) % 5 ≤ c) = true := by simpa using g2
          go_wp2
          go_roundw
          case rel => exact ⟨k + 1, by omega, by go_num, by rw [HW2.out], trivial⟩
          case measure => simp [intOf]; omega
        · have HW2 := Lib.hid (HW.out.trans (if_pos (by omega)))
          have g2' : decide ((ar : Int) % 5 ≤ c) = false := by simpa using g2
          go_wp2
          go_roundw
          case rel => exact ⟨k + 1, by omega, by go_num, by rw [HW2.out], trivial⟩
          case measure => simp [intOf]; omega
    · obtain rfl : k = cs.length := by omega
      have HWF : Hid (wantF ((ar % 5 : Nat) : Int) cs cs.length = if colsOk ((ar % 5 : Nat) : Int) cs = true then 0 else 3) := by
        show _ = _
        unfold wantF; rw [List.take_length]
      have c0 : W3.cell? ⟨zb, 0, none⟩ = some (.int .i64 n1) := HRZ.out.cell 0
      have c1 : W3.cell? ⟨zb, 1, none⟩ = some (.slice ZA Z.length ZC) := HRZ.out.cell 1
      have HEND := Lib.hid (fun (W : World) (hb : Below w.heap.size w W) => (l7awake_any W).mono (fun e W' h => (⟨h.1, Below.then hb h.2 hb.size⟩ : e = .returned (.bool true) ∧ Below w.heap.size w W')))
      rcases HALL.out with ⟨h32, rfl, rfl, rfl⟩ | ⟨h32, hco, rfl, rfl, rfl⟩ | ⟨h32, hco, e1, rfl, rfl⟩
      · generalize wantF ((ar % 5 : Nat) : Int) cs cs.length = q at *
        have h32' : decide ((32 : Int) < (cs.length : Int)) = true := by simp; omega
        simp only [List.length_nil] at c1
        go_wp2_with fail
        refine (l7Is_nil 0 ZA ZC W3).mono ?_
        rintro e w7 ⟨rfl, hb7⟩
        have HB7 := Lib.hid (Below.then HB3.out hb7 HB3.out.size)
        clear hb7 c0 c1
        go_wp2_with fail
        refine (HEND.out w7 HB7.out).mono ?_
        rintro e w9 ⟨rfl, hb9⟩
        go_wp2
        go_ret
        exact ⟨rfl, hb9⟩
      · rw [HWF.out, if_neg (by rw [hco]; simp)]
        have h32' : decide ((32 : Int) < (cs.length : Int)) = false := by simp; omega
        simp only [List.length_nil] at c1
        go_wp2_with fail
        refine (l7Is_nil 0 ZA ZC W3).mono ?_
        rintro e w7 ⟨rfl, hb7⟩
        have HB7 := Lib.hid (Below.then HB3.out hb7 HB3.out.size)
        clear hb7 c0 c1
        go_wp2_with fail
        refine (HEND.out w7 HB7.out).mono ?_
        rintro e w9 ⟨rfl, hb9⟩
        go_wp2
        go_ret
        exact ⟨rfl, hb9⟩
      · rw [HWF.out, if_pos hco]
        have h32' : decide ((32 : Int) < (cs.length : Int)) = false := by simp; omega
        subst e1
        have HRP := Lib.hid (fun W (hb : Below W3.heap.size W3 W) => r7Project_any MA CA MC CC Y cs W (HMS3.out.upB hb) ((HCS.out.below (Below.then HB3.out hb HB3.out.size) (Nat.le_refl _)).more (Below.then HB3.out hb HB3.out.size).size) (by omega) (by omega) HYO.out (fun x hx c hc => by
          have hok := List.all_eq_true.1 hco c hc
          simp only [Bool.and_eq_true, decide_eq_true_eq] at hok
          have hl := HLEN.out x hx
          omega))
        have HZO : Hid (RsOk (RL.ofF (Y.map (projF · cs)))) := (HYO.out.proj h32 HLEN.out hco).of_mem (fun y hy => (RL.mem_ofF _ _).1 hy)
        have hzl : (RL.ofF (Y.map (projF · cs))).length ≤ 40 := by have := RL.ofF_length_le (Y.map (projF · cs)); simp at this; omega
        generalize RL.ofF (Y.map (projF · cs)) = Z at *
        have HIS := Lib.hid (fun W NA NC (hb : Below W3.heap.size W3 W) (hs : SlRs W.heap.size W NA Z) => l7Is_ok (cs.length : Int) ZA NA ZC NC Z W (HSZ.out.upB hb) hs HZO.out (by omega))
        have HEND2 := Lib.hid (fun (W : World) (hb : Below w.heap.size w W) => (l7awake_any W).mono (fun e W' h => (⟨h.1, Below.then hb h.2 hb.size, h.2⟩ : e = .returned (.bool true) ∧ Below w.heap.size w W' ∧ Below W.heap.size W W')))
        clear hco HWF
        go_wp2_with fail
        go_region_held3 (fun w' => w'.cell? ⟨zb, 0, none⟩ = some (.int .i64 cs.length) ∧ w'.cell? ⟨zb, 1, none⟩ = some (.slice ZA Z.length ZC)) (first | exact KEEP3 | exact KEEP2 | exact KEEP1 | go_keep)
          (first
            | (go_at_call 29; refine (HRP.out W3.drew (Below.refl _ _).drew).mono ?_; rintro e w7 ⟨v7, rfl, ⟨NA, NC, rfl, -, -, hs7⟩, hb7⟩
               have HS7 := Lib.hid hs7
               have HB7 := Lib.hid (Below.undrew hb7)
               have KEEP1 : w7.cell? ⟨zb, 0, none⟩ = some (.int .i64 cs.length) ∧ w7.cell? ⟨zb, 1, none⟩ = some (.slice ZA Z.length ZC) := ⟨(hb7.cell (p := ⟨zb, 0, none⟩) hz3).trans c0, (hb7.cell (p := ⟨zb, 1, none⟩) hz3).trans c1⟩
               clear hs7 hb7)
            | (go_at_call 24; refine (HIS.out w7 NA NC HB7.out HS7.out).mono ?_; rintro e w8 ⟨rfl, hb8⟩
               have HB8 := Lib.hid (Below.then HB3.out (Below.then HB7.out hb8 HB7.out.size) HB3.out.size)
               have h7z := HB7.out.size
               have HB8z := Lib.hid hb8.size
               have KEEP2 : w8.cell? ⟨zb, 0, none⟩ = some (.int .i64 cs.length) ∧ w8.cell? ⟨zb, 1, none⟩ = some (.slice ZA Z.length ZC) := ⟨(hb8.cell (p := ⟨zb, 0, none⟩) (show zb < w7.heap.size by omega)).trans KEEP1.1, (hb8.cell (p := ⟨zb, 1, none⟩) (show zb < w7.heap.size by omega)).trans KEEP1.2⟩
               clear hb8)
            | (go_at_call 14; refine (HEND2.out w8 HB8.out).mono ?_; rintro e w9 ⟨rfl, hb9, hb9'⟩
               have HB9 := Lib.hid hb9
               have h8z := HB8z.out
               have KEEP3 : w9.cell? ⟨zb, 0, none⟩ = some (.int .i64 cs.length) ∧ w9.cell? ⟨zb, 1, none⟩ = some (.slice ZA Z.length ZC) := ⟨(hb9'.cell (p := ⟨zb, 0, none⟩) (show zb < w8.heap.size by omega)).trans KEEP2.1, (hb9'.cell (p := ⟨zb, 1, none⟩) (show zb < w8.heap.size by omega)).trans KEEP2.2⟩
               clear hb9 hb9')
            | fail)
        all_goals
          go_wp2
          go_ret
          exact ⟨rfl, HB9.out⟩

end Go.Proofs.Ytiopkooigeaneaa

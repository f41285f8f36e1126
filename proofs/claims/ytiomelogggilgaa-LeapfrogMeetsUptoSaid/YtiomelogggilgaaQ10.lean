/- Parts of the proof, merged: Y16, Y17, Y18, Y19, Y20, Y21, Y22, V16, V17, V18. -/
import Derived.Test.YtiomelogggilgaaQ9
import Derived.Test.YtiomelogggilgaaQ1
import Derived.Test.YtiomelogggilgaaQ5
import Derived.Test.YtiomelogggilgaaQ6
import Derived.Deep.RegionLaw
import Derived.Deep.AppendLies

section
/- Walk: leapfrog's Join. -/
namespace Go.Proofs.Ytiomelogggilgaa
open Go.RowKit Go.Sort

set_option maxHeartbeats 4000000 in
set_option maxRecDepth 100000 in
theorem join1_step (gb B : Nat) (L : List RL.R) (O : Nat → Prop) (w : World) (base : Nat) (vx : Value) (x : RL.R) (hI : ColI gb B L O w) (hO : ∀ b, O b → b < w.heap.size) (hx : w.ownsRow base 41 3 vx x.length (rcells x)) (hn : ∀ b, vx.ownBlock = some b → ¬ O b) (hL : L.length < 1000000000) :
    Calls Try.prog 36 #[vx, .pointer (some ⟨gb, 0, none⟩)] w fun e w' => e = .returned (.bool true) ∧ ∃ O' : Nat → Prop, ColI gb B (L ++ [x]) O' w' ∧ (∀ b, O' b → b < w'.heap.size ∧ (O b ∨ vx.ownBlock = some b ∨ w.heap.size ≤ b)) ∧ Chg O w w' := by
  obtain ⟨v, hs, hC⟩ := hI
  obtain ⟨-, A, C, rfl, hc, hm, hsl, -⟩ := SlR.of_own hx
  have g0 : w.cell? ⟨gb, 0, none⟩ = some v := hC.row.cell 0
  have hgz := hC.row.lt
  have HC := Lib.hid hC
  have HO := Lib.hid hO
  have HSL := Lib.hid hsl
  have HA : Hid (∀ ad, A = some ad → ¬ O ad.block ∧ ad.block < w.heap.size) := fun ad e => ⟨hn ad.block (by rw [e]; rfl), own_lt hx ad.block (by rw [e]; rfl)⟩
  have HCM := Lib.hid (And.intro hc hm)
  have HFZ := Lib.hid (own_frozen hx)
  clear hC hO hsl hx hn hc hm
  go_enter Try.func36, Try.ntmps36
  go_wp2_with
    (at_builtin
     refine appH1 rfl (.tmp 4) (.tmp 6) rfl B v L.length hs rfl (HC.out.own.alloc _) w.heap.size (.slice A x.length C) rfl ((Row.new w 34 [.slice A x.length C]).cell 0) rfl (by omega) (by have := HC.out.z; simp; omega) ?_
     intro v' w6 hown6 hg6 hat6
     obtain ⟨A6, C6, rfl, -, -⟩ := Sl.of_own_n hown6
     have hr6 : Row w6 gb 32 [v] := (HC.out.row.alloc (.cells #[.slice A x.length C] 34)).grown hg6 (fun e => by have := own_base HC.out.own e.symm; have := HC.out.lt; omega)
     have k0 : w6.cell? ⟨gb, 0, none⟩ = some v := hr6.cell 0
     have kf : w6.frozen? ⟨gb, 0, none⟩ = false := hr6.frozen 0
     have HFIN := Lib.hid (HC.out.put HO.out HSL.out HCM.out.1 HCM.out.2 HA.out HFZ.out hown6 hg6 hat6)
     clear hown6 hg6 hat6 hr6)
  go_wp2
  go_ret
  obtain ⟨O', k1, k2, k3⟩ := HFIN.out
  exact ⟨rfl, O', ⟨_, _, k1⟩, k2, k3⟩
theorem join1_yield (gb B D : Nat) : YieldC 36 #[.pointer (some ⟨gb, 0, none⟩)] (fun _ => true) (ColI gb B) 1000000000 D where
  enter := enters_of Try.func36 (by kernel_rfl) rfl
  keep L O w w' := fun ⟨v, hs, h⟩ _ hk hz => ⟨v, hs, h.keep hk hz⟩
  step L O w base v x hI hO hx hn _ hL := join1_step gb B L O w base v x hI hO hx hn hL

/-- What Join leaves. -/
def JoinPost (n : Int) (X : List RA) (w : World) (e : Ending) (w' : World) : Prop :=
  (errA n X ≠ 0 → e = .returned (.tuple #[.slice none 0 0, .int .i64 0, .int .i64 (errA n X)])) ∧ Below w.heap.size w w' ∧
  (errA n X = 0 → ∃ A C st, e = .returned (.tuple #[.slice A (joinF n.toNat (X.map RA.at)).length C, .int .i64 (st : Nat), .int .i64 0]) ∧ (joinF n.toNat (X.map RA.at)).length ≤ st ∧ st ≤ 8000000000000000000 ∧ (joinF n.toNat (X.map RA.at)).length ≤ C ∧ C ≤ 9223372036854775807 ∧ SlRs w'.heap.size w' A (joinF n.toNat (X.map RA.at)))
theorem ColM.sl {gb B : Nat} {L : List RL.R} {O : Nat → Prop} {w : World} {v : Value} {hs : List Value} (h : ColM gb B L O w v hs) : ∃ A C, v = .slice A L.length C ∧ L.length ≤ C ∧ C ≤ 9223372036854775807 ∧ SlRs w.heap.size w A L := by
  have ho : OwnRs w B 34 v L := ⟨hs, h.own, fun i hi => by
    obtain ⟨A', C', h1, h2, h3, h4⟩ := h.el i hi
    exact ⟨A', C', h1, h2, h3, h4, fun _ ad e => (h.blk i _ ad.block h1 (by rw [e]; rfl)).2.2⟩⟩
  exact ho.sl

set_option maxHeartbeats 4000000 in
set_option maxRecDepth 100000 in
theorem lfJoin_any (n : Int) (AA : Option Addr) (AC : Nat) (X : List RA) (M : Nat) (w : World) (hA : AtsM w.heap.size w AA X) (hXl : X.length ≤ 9223372036854775807) (hvl : ∀ a ∈ X, a.vs.length ≤ 1000000)
    (hok : ∀ a ∈ X, RelOk M a) (hc : errA n X = 0 → costN M (meetN 64 M) n.toNat * 200002 ≤ 100000000000000000) (hL : errA n X = 0 → (joinF n.toNat (X.map RA.at)).length ≤ 1000000000) :
    Calls Try.prog 17 #[.int .i64 n, .slice AA X.length AC] w (JoinPost n X w) := by
  obtain ⟨W1, hW1⟩ : ∃ W1, W1 = w.alloc (.cells #[.slice none 0 0] 32) := ⟨_, rfl⟩
  have hr1 : Row W1 w.heap.size 32 [.slice none 0 0] := by rw [hW1]; exact Row.new w 32 _
  have hx1 : Ext w W1 := by rw [hW1]; exact (Ext.refl w).alloc _
  have hz1 := hr1.lt
  have HEA := Lib.hid (lfEach_any n AA AC X 36 #[.pointer (some ⟨w.heap.size, 0, none⟩)] (fun _ => true) (ColI w.heap.size W1.heap.size) 1000000000 M (join1_yield w.heap.size W1.heap.size 64) [] (fun b => b = w.heap.size) W1 (hA.upB hx1.below) hXl hvl hok hc
    ⟨.slice none 0 0, [], ⟨hr1, own_nil _ _ _ _, hz1, fun i hi => absurd hi (by simp), fun i u b hu => (by simp at hu), fun i j u u' b hu => (by simp at hu), rfl, fun b hb => (by cases hb), Nat.le_refl _, fun i u b hu => (by simp at hu)⟩⟩ (fun b hb => by rw [hb]; exact hz1) (fun h => by have := hL h; simpa using this))
  have HX1 := Lib.hid hx1
  have hmf : ∀ (fn : Fn) (first cap : Array Value) (w : World), (Instr.makeFunc fn first cap).run Try.prog w = .ok (.func fn first cap) w := fun _ _ _ _ => rfl
  clear hA hok hc hL hr1 hx1 hvl hXl
  go_enter Try.func17, Try.ntmps17
  go_wp2_with fail
  rw [← hW1]
  clear hW1
  refine HEA.out.mono ?_
  rintro e w2 ⟨h1, h2⟩
  by_cases he : errA n X = 0
  rotate_left
  · obtain ⟨rfl, hb2⟩ := h1 he
    have hnb : (errA n X != 0) = true := by simpa using he
    have HE : Hid (errA n X ≠ 0) := he
    have HB2 := Lib.hid (Below.then HX1.out.below hb2 HX1.out.size)
    clear he h1 h2 hb2
    go_wp2
    exact bodyPost_ret (v := .tuple #[.slice none 0 0, .int .i64 0, .int .i64 (errA n X)]) (by simp [results, Try.results17, go_sem]) rfl ⟨fun _ => rfl, HB2.out, fun h => absurd h HE.out⟩
  obtain ⟨st, rfl, hs1, hs2, O', ⟨v, hs, hcol⟩, hO', hc3⟩ := h2 he
  rw [feed_true _ (fun _ => rfl), List.nil_append] at hs1 hcol
  obtain ⟨A, C, rfl, k1, k2, k3⟩ := hcol.sl
  have g0 : w2.cell? ⟨w.heap.size, 0, none⟩ = some (.slice A (joinF n.toNat (X.map RA.at)).length C) := hcol.row.cell 0
  have hgz := hcol.row.lt
  have HE := Lib.hid he
  have HF := Lib.hid (And.intro hs1 (And.intro hs2 (And.intro k1 (And.intro k2 k3))))
  have HB2 : Hid (Below w.heap.size w w2) := Below.then HX1.out.below (hc3.below (B := w.heap.size) HX1.out.size fun b hb => by rw [hb]; exact Nat.le_refl _) (Nat.le_refl _)
  have hnb : (errA n X != 0) = false := by simp [he]
  clear he h1 h2 hs1 hs2 hcol hO' hc3 k1 k2 k3 HEA hnb
  go_wp2
  obtain ⟨k1, k2, k3, k4, k5⟩ := HF.out
  exact bodyPost_ret (v := .tuple #[.slice A (joinF n.toNat (X.map RA.at)).length C, .int .i64 (st : Nat), .int .i64 0]) (by simp [results, Try.results17, go_sem]) rfl ⟨fun h => absurd HE.out h, HB2.out, fun _ => ⟨A, C, st, rfl, by simpa using k1, k2, k3, k4, k5⟩⟩

end Go.Proofs.Ytiomelogggilgaa
end

section
/- Walks: natural numbers below 2^32 (nat.Of, trim); leapfrog's Count. -/
namespace Go.Proofs.Ytiomelogggilgaa
open Go.RowKit Go.Sort

/-- How many digits are left without leading zeros. -/
def trimN (l : List Nat) : Nat := (l.reverse.dropWhile (· == 0)).length
theorem trimN_nil : trimN [] = 0 := rfl
theorem trimN_snoc_zero (l : List Nat) : trimN (l ++ [0]) = trimN l := by unfold trimN; simp
theorem trimN_snoc (l : List Nat) {z : Nat} (h : z ≠ 0) : trimN (l ++ [z]) = l.length + 1 := by
  unfold trimN
  rw [List.reverse_append]
  simp [h]
theorem trimN_le (l : List Nat) : trimN l ≤ l.length := by
  unfold trimN
  have := List.Sublist.length_le (List.dropWhile_sublist (· == 0) (l := l.reverse))
  simpa using this

set_option maxRecDepth 100000 in
set_option maxHeartbeats 1000000 in
theorem natTrim_any (A : Option Addr) (C : Nat) (l : List Nat) (w : World) (h : SlN .u32 w.heap.size w A l) (hl : l.length ≤ 1000000) (hc : l.length ≤ C) :
    Calls Try.prog 46 #[.slice A l.length C] w fun e w' => e = .returned (.slice A (trimN l) (trimN l)) ∧ w = w' := by
  have HS := Lib.hid h
  clear h
  go_enter Try.func46, Try.ntmps46
  go_wp2
  go_loopw [3] (fun c wr => ∃ k : Nat, k ≤ l.length ∧ c = .int .i64 k ∧ trimN (l.take k) = trimN l ∧ wr = w) (fun c _ => (intOf c).toNat)
  case atStart => exact ⟨l.length, Nat.le_refl _, rfl, by rw [List.take_length], rfl⟩
  case round =>
    obtain ⟨k, hk, rfl, ht, rfl⟩ := hrel
    have HT := Lib.hid ht
    clear ht
    by_cases h1 : 0 < k
    rotate_left
    · have hk0 : k = 0 := by omega
      subst hk0
      have HZ : Hid (trimN l = 0) := by
        have h := HT.out
        rw [List.take_zero, trimN_nil] at h
        exact h.symm
      clear HT
      go_wp2
      go_ret
      exact ⟨by rw [HZ.out]; rfl, rfl⟩
    · obtain ⟨b, o, rfl, hb, c0⟩ := slN_at HS.out (show k - 1 < l.length by omega)
      have HTK : Hid (l.take k = l.take (k - 1) ++ [l[k - 1]]) := by
        have h := List.take_succ_eq_append_getElem (show k - 1 < l.length by omega)
        have e : k - 1 + 1 = k := by omega
        rw [e] at h
        exact h
      have HLT : Hid ((l.take (k - 1)).length + 1 = k) := by show _ = _; simp; omega
      generalize l[k - 1] = z at *
      have hws : IntKind.i64.wrap ((k : Int) - 1) = ((k - 1 : Nat) : Int) := by rw [IntWalk.i64_in _ (by omega)]; omega
      have g1 : (0 : Int) < (k : Int) := by omega
      have g2 : (0 : Int) ≤ ((k - 1 : Nat) : Int) := by omega
      have g3 : ((k - 1 : Nat) : Int) < (l.length : Int) := by omega
      by_cases hz : z = 0
      · have hz2 : ((z : Int) == 0) = true := by rw [hz]; rfl
        have HT2 : Hid (trimN (l.take (k - 1)) = trimN l) := by
          have h := HT.out
          rw [HTK.out, hz, trimN_snoc_zero] at h
          exact h
        clear hz
        go_wp2
        go_roundw
        case rel => exact ⟨k - 1, by omega, by go_num, HT2.out, by first | rfl | trivial⟩
        case measure => simp [intOf]; omega
      · have hz2 : ((z : Int) == 0) = false := by rw [beq_eq_false_iff_ne]; omega
        have HT2 : Hid (trimN l = k) := by
          have h := HT.out
          rw [HTK.out, trimN_snoc _ hz, HLT.out] at h
          exact h.symm
        clear hz
        have hkC : k ≤ C := by omega
        go_wp2
        go_ret
        exact ⟨by rw [HT2.out]; rfl, rfl⟩

set_option maxRecDepth 100000 in
set_option maxHeartbeats 1000000 in
theorem natOf_any (n : Nat) (hn : n < 4294967296) (w : World) :
    Calls Try.prog 26 #[.int .u64 n] w fun e w' => ∃ A, e = .returned (.slice A (trimN [n, 0]) (trimN [n, 0])) ∧ SlN .u32 w'.heap.size w' A [n, 0] ∧ Ext w w' := by
  obtain ⟨W1, hW1⟩ : ∃ W1, W1 = w.alloc (.cells #[.int .u32 (n : Int), .int .u32 0] 97) := ⟨_, rfl⟩
  have hr1 : Row W1 w.heap.size 97 [.int .u32 (n : Int), .int .u32 ((0 : Nat) : Int)] := by rw [hW1]; exact Row.new w 97 _
  have hx1 : Ext w W1 := by rw [hW1]; exact (Ext.refl w).alloc _
  have HT := Lib.hid (natTrim_any (some ⟨w.heap.size, 0, none⟩) 2 [n, 0] W1 (fun _ => ⟨w.heap.size, 0, rfl, hr1.lt, fun i u hu => by rw [Nat.zero_add, hr1.cell]; exact hu⟩) (by simp) (by simp))
  have HR1 := Lib.hid hr1
  have HX1 := Lib.hid hx1
  have hc1 : IntKind.u32.wrap (n : Int) = (n : Int) := by
    show ((n : Int) % 4294967296) = n
    omega
  have hc2 : (n : Int) >>> 32 = 0 := by
    show ((n >>> 32 : Nat) : Int) = 0
    rw [Nat.shiftRight_eq_div_pow]
    omega
  have hc3 : (n : Int) / 4294967296 = 0 := by omega
  clear hr1 hx1
  go_enter Try.func26, Try.ntmps26
  go_wp2_with fail
  rw [← hW1]
  clear hW1
  refine HT.out.mono ?_
  rintro e w2 ⟨rfl, rfl⟩
  go_wp2
  go_ret
  exact ⟨_, rfl, fun _ => ⟨w.heap.size, 0, rfl, HR1.out.lt, fun i u hu => by rw [Nat.zero_add, HR1.out.cell]; exact hu⟩, HX1.out⟩

/-- The box in which Count counts. -/
def CntI (cb : Nat) (L : List RL.R) (O : Nat → Prop) (w : World) : Prop := Row w cb 69 [.int .u64 (L.length : Nat)] ∧ ∀ b, O b ↔ b = cb
set_option maxRecDepth 100000 in
theorem count1_yield (cb : Nat) : Yield 43 #[.pointer (some ⟨cb, 0, none⟩)] (fun _ => true) (CntI cb) 1000000000 64 where
  enter := enters_of Try.func43 (by kernel_rfl) rfl
  keep L O w w' := fun ⟨h1, h2⟩ _ hk _ => ⟨(hk cb ((h2 cb).2 rfl)).trans h1, h2⟩
  step L O w A C x := fun ⟨hr, hO⟩ hlt _ _ _ _ _ hL => by
    have c0 : w.cell? ⟨cb, 0, none⟩ = some (.int .u64 (L.length : Nat)) := hr.cell 0
    have f0 : w.frozen? ⟨cb, 0, none⟩ = false := hr.frozen 0
    have hz := hr.lt
    have hw : IntKind.u64.wrap ((L.length : Int) + 1) = ((L.length + 1 : Nat) : Int) := by
      show (((L.length : Int) + 1) % 18446744073709551616) = _
      omega
    have HR := Lib.hid hr
    have HO := Lib.hid hO
    clear hr hO hlt
    show Calls Try.prog 43 #[.slice A x.length C, .pointer (some ⟨cb, 0, none⟩)] w _
    go_enter Try.func43, Try.ntmps43
    go_wp2
    go_ret
    refine ⟨rfl, O, ⟨?_, HO.out⟩, fun b hb => ⟨?_, .inl hb⟩, Chg.set _ _ _ _ ((HO.out cb).2 rfl)⟩
    · rw [List.length_append, List.length_singleton]
      exact HR.out.set 0 _
    · rw [(HO.out b).1 hb]; simpa using hz

/-- What Count leaves. -/
def CountPost (n : Int) (X : List RA) (w : World) (e : Ending) (w' : World) : Prop :=
  (errA n X ≠ 0 → e = .returned (.tuple #[.slice none 0 0, .int .i64 0, .int .i64 (errA n X)])) ∧ Below w.heap.size w w' ∧
  (errA n X = 0 → ∃ A st, e = .returned (.tuple #[.slice A (trimN [(joinF n.toNat (X.map RA.at)).length, 0]) (trimN [(joinF n.toNat (X.map RA.at)).length, 0]), .int .i64 (st : Nat), .int .i64 0]) ∧ SlN .u32 w'.heap.size w' A [(joinF n.toNat (X.map RA.at)).length, 0] ∧ st ≤ 8000000000000000000)

set_option maxHeartbeats 4000000 in
set_option maxRecDepth 100000 in
theorem lfCount_any (n : Int) (AA : Option Addr) (AC : Nat) (X : List RA) (M : Nat) (w : World) (hA : AtsM w.heap.size w AA X) (hXl : X.length ≤ 9223372036854775807) (hvl : ∀ a ∈ X, a.vs.length ≤ 1000000)
    (hok : ∀ a ∈ X, RelOk M a) (hc : errA n X = 0 → costN M (meetN 64 M) n.toNat * 200002 ≤ 100000000000000000) (hL : errA n X = 0 → (joinF n.toNat (X.map RA.at)).length ≤ 1000000000) :
    Calls Try.prog 23 #[.int .i64 n, .slice AA X.length AC] w (CountPost n X w) := by
  have HCK := Lib.hid (lfCheck_any n AA AC X w hA hXl hvl)
  have HA := Lib.hid hA
  have HOK := Lib.hid hok
  have HC := Lib.hid hc
  have HL := Lib.hid hL
  have hmf : ∀ (fn : Fn) (first cap : Array Value) (w : World), (Instr.makeFunc fn first cap).run Try.prog w = .ok (.func fn first cap) w := fun _ _ _ _ => rfl
  clear hA hok hc hL hvl hXl
  go_enter Try.func23, Try.ntmps23
  go_wp2_with fail
  refine HCK.out.mono ?_
  rintro e w2 ⟨rfl, hb2⟩
  have HB2 := Lib.hid hb2
  have hz2 := hb2.size
  clear hb2 HCK
  by_cases he : errA n X = 0
  rotate_left
  · have hnb : (errA n X != 0) = true := by simpa using he
    have HE : Hid (errA n X ≠ 0) := he
    clear he
    go_wp2
    exact bodyPost_ret (v := .tuple #[.slice none 0 0, .int .i64 0, .int .i64 (errA n X)]) (by simp [results, Try.results23, go_sem]) rfl ⟨fun _ => rfl, HB2.out, fun h => absurd h HE.out⟩
  obtain ⟨m, rfl, hm, hXl, hat, hu⟩ := errA_zero he
  obtain ⟨W3, hW3⟩ : ∃ W3, W3 = w2.alloc (.cells #[.int .u64 0] 69) := ⟨_, rfl⟩
  have hr3 : Row W3 w2.heap.size 69 [.int .u64 ((([] : List RL.R).length : Nat) : Int)] := by rw [hW3]; exact Row.new w2 69 _
  have hx3 : Ext w2 W3 := by rw [hW3]; exact (Ext.refl w2).alloc _
  have hz3 := hr3.lt
  have HRUN := Lib.hid (lfRun_any m AA AC X 43 #[.pointer (some ⟨w2.heap.size, 0, none⟩)] (fun _ => true) (CntI w2.heap.size) 1000000000 M (count1_yield w2.heap.size) [] (fun b => b = w2.heap.size) W3 ((HA.out.upB HB2.out).upB hx3.below) (fun a ha => raOk_of (hat a ha) (HOK.out a ha)) (used_of hu) hm hXl (by have h := HC.out he; rw [Int.toNat_natCast] at h; exact h) ⟨hr3, fun b => Iff.rfl⟩ (fun b hb => by rw [hb]; exact hz3) (by have h := HL.out he; rw [Int.toNat_natCast] at h; simpa using h))
  have HX3 := Lib.hid hx3
  have HE := Lib.hid he
  have HJL : Hid ((joinF m (X.map RA.at)).length ≤ 1000000000) := by have h := HL.out he; rw [Int.toNat_natCast] at h; exact h
  rw [he]
  clear hat hu he hXl hr3 hx3
  go_wp2_with fail
  rw [← hW3]
  clear hW3
  refine HRUN.out.mono ?_
  rintro e w4 ⟨st, rfl, hs1, hs2, O', ⟨hr4, -⟩, hO', hc4⟩
  rw [feed_true _ (fun _ => rfl), List.nil_append] at hr4
  have c0 : w4.cell? ⟨w2.heap.size, 0, none⟩ = some (.int .u64 ((joinF m (X.map RA.at)).length : Nat)) := hr4.cell 0
  have hz4 := hr4.lt
  have HB4 : Hid (Below w.heap.size w w4) := Below.then HB2.out (Below.then HX3.out.below (hc4.below (B := w2.heap.size) HX3.out.size fun b hb => by rw [hb]; exact Nat.le_refl _) (Nat.le_refl _)) hz2
  have HS2 := Lib.hid hs2
  have HOF := Lib.hid (natOf_any (joinF m (X.map RA.at)).length (by have := HJL.out; omega) w4)
  have HCP : Hid (∀ A w', SlN .u32 w'.heap.size w' A [(joinF m (X.map RA.at)).length, 0] → Below w.heap.size w w' → CountPost (m : Int) X w (.returned (.tuple #[.slice A (trimN [(joinF m (X.map RA.at)).length, 0]) (trimN [(joinF m (X.map RA.at)).length, 0]), .int .i64 (st : Nat), .int .i64 0])) w') := fun A w' h1 h2 =>
    ⟨fun h => absurd HE.out h, h2, fun _ => ⟨A, st, by rw [Int.toNat_natCast], by rw [Int.toNat_natCast]; exact h1, HS2.out⟩⟩
  clear hs1 hs2 hr4 hO' hc4 HRUN HL HJL
  generalize (joinF m (X.map RA.at)).length = jl at *
  go_wp2_with fail
  refine HOF.out.mono ?_
  rintro e w5 ⟨A, rfl, hsl, hx5⟩
  have HFIN := Lib.hid (HCP.out A w5 hsl (Below.then HB4.out hx5.below HB4.out.size))
  clear hsl hx5
  go_wp2
  exact bodyPost_ret (v := .tuple #[.slice A (trimN [jl, 0]) (trimN [jl, 0]), .int .i64 (st : Nat), .int .i64 0]) (by simp [results, Try.results23, go_sem]) rfl HFIN.out

end Go.Proofs.Ytiomelogggilgaa
end

section
/- Walk: nat.Cmp at numbers below 2^32. -/
namespace Go.Proofs.Ytiomelogggilgaa
open Go.RowKit Go.Sort

theorem nanU32_any (x : Int) (w : World) : Calls Try.prog 68 #[.int .u32 x] w fun e w' => e = .returned (.bool false) ∧ w' = w := by
  go_enter Try.func68, Try.ntmps68
  go_wp2
  go_ret
  exact ⟨by simp, rfl⟩
theorem cmpU32_any (x y : Int) (w : World) : Calls Try.prog 48 #[.int .u32 x, .int .u32 y] w fun e w' => e = .returned (.int .i64 (RL.cmpI x y)) ∧ w' = w := by
  by_cases h : x < y
  · have hr : RL.cmpI x y = -1 := by simp [RL.cmpI, h]
    rw [hr]
    clear hr
    go_enter Try.func48, Try.ntmps48
    go_wp2_with (go_at_call 68; refine (nanU32_any _ _).mono ?_; rintro e w' ⟨rfl, rfl⟩)
    go_ret
    exact ⟨rfl, rfl⟩
  · by_cases h2 : y < x
    · have hr : RL.cmpI x y = 1 := by simp [RL.cmpI, h, h2]
      rw [hr]
      clear hr
      go_enter Try.func48, Try.ntmps48
      go_wp2_with (go_at_call 68; refine (nanU32_any _ _).mono ?_; rintro e w' ⟨rfl, rfl⟩)
      go_ret
      exact ⟨rfl, rfl⟩
    · have hr : RL.cmpI x y = 0 := by simp [RL.cmpI, h, h2]
      rw [hr]
      clear hr
      go_enter Try.func48, Try.ntmps48
      go_wp2_with (go_at_call 68; refine (nanU32_any _ _).mono ?_; rintro e w' ⟨rfl, rfl⟩)
      go_ret
      exact ⟨rfl, rfl⟩

/-- The digits of a number below 2^32. -/
def digs (x : Nat) : List Nat := if x = 0 then [] else [x]
theorem trim_digs (x : Nat) : trimN (digs x) = (digs x).length := by
  unfold digs
  split
  · rfl
  · rename_i h; exact trimN_snoc [] h
theorem trim_pair (x : Nat) : trimN [x, 0] = (digs x).length := by
  show trimN ([x] ++ [0]) = _
  rw [trimN_snoc_zero]
  unfold digs
  split
  · rename_i h; subst h; exact trimN_snoc_zero []
  · rename_i h; exact trimN_snoc [] h
def NatM (w : World) (v : Value) (x : Nat) : Prop := ∃ A C, v = .slice A (digs x).length C ∧ (digs x).length ≤ C ∧ SlN .u32 w.heap.size w A (digs x)
theorem NatM.zero (w : World) : NatM w (.slice none 0 0) 0 := ⟨none, 0, rfl, Nat.le_refl _, fun h => absurd rfl h⟩
theorem NatM.up {w w' : World} {v : Value} {x : Nat} (h : NatM w v x) (hb : Below w.heap.size w w') : NatM w' v x := by
  obtain ⟨A, C, h1, h2, h3⟩ := h
  exact ⟨A, C, h1, h2, (Sl.below h3 hb (Nat.le_refl _)).more hb.size⟩
theorem NatM.of {w : World} {A : Option Addr} {x : Nat} (h : SlN .u32 w.heap.size w A [x, 0]) : NatM w (.slice A (trimN [x, 0]) (trimN [x, 0])) x := by
  refine ⟨A, trimN [x, 0], by rw [trim_pair], by rw [trim_pair]; exact Nat.le_refl _, fun hn => ?_⟩
  obtain ⟨b, o, e, hb, hc⟩ := h (by simp)
  refine ⟨b, o, e, hb, fun i u hu => ?_⟩
  unfold digs at hu
  split at hu
  · simp at hu
  · cases i with
    | zero => exact hc 0 u (by simpa using hu)
    | succ i => simp at hu

theorem natCmp_len (A B : Option Addr) (C D la lb : Nat) (w : World) (hab : la ≠ lb) (h1 : Calls Try.prog 46 #[.slice A la C] w fun e w' => e = .returned (.slice A la la) ∧ w = w') (h2 : Calls Try.prog 46 #[.slice B lb D] w fun e w' => e = .returned (.slice B lb lb) ∧ w = w') :
    Calls Try.prog 25 #[.slice A la C, .slice B lb D] w fun e w' => e = .returned (.int .i64 (RL.cmpI la lb)) ∧ w = w' := by
  have H1 := Lib.hid h1
  have H2 := Lib.hid h2
  have hnb : ((la : Int) != (lb : Int)) = true := by simp; omega
  clear h1 h2 hab
  go_enter Try.func25, Try.ntmps25
  go_wp2_with fail
  refine H1.out.mono ?_
  rintro e w1 ⟨rfl, rfl⟩
  go_wp2_with fail
  refine H2.out.mono ?_
  rintro e w1 ⟨rfl, rfl⟩
  go_wp2_with (go_at_call 47; refine (cmpInt_any _ _ _).mono ?_; rintro e w' ⟨rfl, rfl⟩)
  go_ret
  exact ⟨rfl, rfl⟩

theorem natCmp_00 (A B : Option Addr) (C D : Nat) (w : World) (h1 : Calls Try.prog 46 #[.slice A 0 C] w fun e w' => e = .returned (.slice A 0 0) ∧ w = w') (h2 : Calls Try.prog 46 #[.slice B 0 D] w fun e w' => e = .returned (.slice B 0 0) ∧ w = w') :
    Calls Try.prog 25 #[.slice A 0 C, .slice B 0 D] w fun e w' => e = .returned (.int .i64 0) ∧ w = w' := by
  have H1 := Lib.hid h1
  have H2 := Lib.hid h2
  obtain ⟨w0, hw0⟩ : ∃ w0, w0 = w := ⟨_, rfl⟩
  subst hw0
  clear h1 h2
  go_enter Try.func25, Try.ntmps25
  go_wp2_with fail
  refine H1.out.mono ?_
  rintro e w1 ⟨rfl, rfl⟩
  go_wp2_with fail
  refine H2.out.mono ?_
  rintro e w1 ⟨rfl, rfl⟩
  go_wp2_with fail
  go_loopw [5] (fun c wx => c = .int .i64 (-1) ∧ wx = w0) (fun _ _ => 0)
  case atStart => exact ⟨rfl, rfl⟩
  case round =>
    obtain ⟨rfl, rfl⟩ := hrel
    go_wp2
    go_ret
    exact ⟨rfl, rfl⟩
set_option maxRecDepth 100000 in
theorem natCmp_11 (b1 o1 b2 o2 C D x y : Nat) (w : World) (c1 : w.cell? ⟨b1, o1, none⟩ = some (.int .u32 (x : Nat))) (c2 : w.cell? ⟨b2, o2, none⟩ = some (.int .u32 (y : Nat))) (hb1 : b1 < w.heap.size) (hb2 : b2 < w.heap.size) (h1 : Calls Try.prog 46 #[.slice (some ⟨b1, o1, none⟩) 1 C] w fun e w' => e = .returned (.slice (some ⟨b1, o1, none⟩) 1 1) ∧ w = w') (h2 : Calls Try.prog 46 #[.slice (some ⟨b2, o2, none⟩) 1 D] w fun e w' => e = .returned (.slice (some ⟨b2, o2, none⟩) 1 1) ∧ w = w') :
    Calls Try.prog 25 #[.slice (some ⟨b1, o1, none⟩) 1 C, .slice (some ⟨b2, o2, none⟩) 1 D] w fun e w' => ∃ z : Int, e = .returned (.int .i64 z) ∧ (z = 0 ↔ x = y) ∧ Ext w w' := by
  have H1 := Lib.hid h1
  have H2 := Lib.hid h2
  have C1 := Lib.hid c1
  have C2 := Lib.hid c2
  obtain ⟨w0, hw0⟩ : ∃ w0, w0 = w := ⟨_, rfl⟩
  subst hw0
  clear h1 h2 c1 c2
  go_enter Try.func25, Try.ntmps25
  go_wp2_with fail
  refine H1.out.mono ?_
  rintro e w1 ⟨rfl, rfl⟩
  go_wp2_with fail
  refine H2.out.mono ?_
  rintro e w1 ⟨rfl, rfl⟩
  go_wp2_with fail
  go_loopw [5] (fun c wx => (c = .int .i64 0 ∨ c = .int .i64 (-1) ∧ x = y) ∧ Ext w0 wx) (fun c _ => (intOf c + 1).toNat)
  case atStart => exact ⟨.inl rfl, Ext.refl _⟩
  case round =>
    obtain ⟨hcc, hx⟩ := hrel
    have HX := Lib.hid hx
    have d1 := (hx.cell hb1).trans C1.out
    have d2 := (hx.cell hb2).trans C2.out
    have hz1 := Nat.lt_of_lt_of_le hb1 hx.size
    have hz2 := Nat.lt_of_lt_of_le hb2 hx.size
    clear hx
    rcases hcc with rfl | ⟨rfl, he⟩
    · go_wp2_with fail
      refine wp_region_held_drew (S := (fun w' => w'.cell? ⟨b1, o1, none⟩ = some (.int .u32 (x : Nat)) ∧ w'.cell? ⟨b2, o2, none⟩ = some (.int .u32 (y : Nat)))) (by kernel_rfl) ⟨d1, d2⟩ (fun hHeld => ?_)
      refine takeOp (i := 0) (v := ?_) (some 27) rfl rfl (by kernel_rfl) (by kernel_rfl) (by kernel_rfl) (fun _ _ _ h => h) (Or.inl ⟨by rfl, ?_⟩) (by assumption) ?_
      rotate_left 1
      · (intro w0 hSw; (try dsimp only at hSw); go_simp; try (with_reducible rfl))
      try simp only [Act.put]
      try simp only [List.setIfInBounds_toArray]
      try simp only [List.set_cons_succ]
      try simp only [List.set_cons_zero]
      refine takeOp (i := 1) (v := ?_) (some 28) rfl rfl (by kernel_rfl) (by kernel_rfl) (by kernel_rfl) (fun _ _ _ h => h) (Or.inl ⟨by rfl, ?_⟩) (by assumption) ?_
      rotate_left 1
      · (intro w0 hSw; (try dsimp only at hSw); go_simp; try (with_reducible rfl))
      try simp only [Act.put]
      try simp only [List.setIfInBounds_toArray]
      try simp only [List.set_cons_succ]
      try simp only [List.set_cons_zero]
      refine takeOp (i := 2) (v := ?_) (some 29) rfl rfl (by kernel_rfl) (by kernel_rfl) (by kernel_rfl) (fun _ _ _ h => h) (Or.inl ⟨by rfl, ?_⟩) (by assumption) ?_
      rotate_left 1
      · (intro w0 hSw; (try dsimp only at hSw); go_simp; try (with_reducible rfl))
      try simp only [Act.put]
      try simp only [List.setIfInBounds_toArray]
      try simp only [List.set_cons_succ]
      try simp only [List.set_cons_zero]
      refine takeOp (i := 3) (v := ?_) (some 30) rfl rfl (by kernel_rfl) (by kernel_rfl) (by kernel_rfl) (fun _ _ _ h => h) (Or.inl ⟨by rfl, ?_⟩) (by assumption) ?_
      rotate_left 1
      · (intro w0 hSw; (try dsimp only at hSw); go_simp; try (with_reducible rfl))
      try simp only [Act.put]
      try simp only [List.setIfInBounds_toArray]
      try simp only [List.set_cons_succ]
      try simp only [List.set_cons_zero]
      refine takeOp (i := 4) (v := ?_) (some 31) rfl rfl (by kernel_rfl) (by kernel_rfl) (by kernel_rfl) (fun _ _ _ h => h) (Or.inl ⟨by rfl, ?_⟩) (by assumption) ?_
      rotate_left 1
      · (intro w0 hSw; (try dsimp only at hSw); go_simp; try (with_reducible rfl))
      try simp only [Act.put]
      try simp only [List.setIfInBounds_toArray]
      try simp only [List.set_cons_succ]
      try simp only [List.set_cons_zero]
      refine takeOp (i := 5) (v := ?_) (some 32) rfl rfl (by kernel_rfl) (by kernel_rfl) (by kernel_rfl) (fun _ _ _ h => h) (Or.inl ⟨by rfl, ?_⟩) (by assumption) ?_
      rotate_left 1
      · (intro w0 hSw; (try dsimp only at hSw); go_simp; try (with_reducible rfl))
      try simp only [Act.put]
      try simp only [List.setIfInBounds_toArray]
      try simp only [List.set_cons_succ]
      try simp only [List.set_cons_zero]
      refine takeOp (i := 6) (v := ?_) (some 33) rfl rfl (by kernel_rfl) (by kernel_rfl) (by kernel_rfl) (fun _ _ _ h => h) (Or.inl ⟨by rfl, ?_⟩) (by assumption) ?_
      rotate_left 1
      · (intro w0 hSw; (try dsimp only at hSw); go_simp; try (with_reducible rfl))
      try simp only [Act.put]
      try simp only [List.setIfInBounds_toArray]
      try simp only [List.set_cons_succ]
      try simp only [List.set_cons_zero]
      refine takeOp (i := 7) (v := ?_) (some 34) rfl rfl (by kernel_rfl) (by kernel_rfl) (by kernel_rfl) (fun _ _ _ h => h) (Or.inl ⟨by rfl, ?_⟩) (by assumption) ?_
      rotate_left 1
      · (intro w0 hSw; (try dsimp only at hSw); go_simp; try (with_reducible rfl))
      try simp only [Act.put]
      try simp only [List.setIfInBounds_toArray]
      try simp only [List.set_cons_succ]
      try simp only [List.set_cons_zero]
      refine takeOp (i := 8) (v := ?_) (some 35) rfl rfl (by kernel_rfl) (by kernel_rfl) (by kernel_rfl) (fun _ _ _ h => h) (Or.inl ⟨by rfl, ?_⟩) (by assumption) ?_
      rotate_left 1
      · (intro w0 hSw; (try dsimp only at hSw); go_simp; try (with_reducible rfl))
      try simp only [Act.put]
      try simp only [List.setIfInBounds_toArray]
      try simp only [List.set_cons_succ]
      try simp only [List.set_cons_zero]
      refine wpAnyH_done (by kernel_rfl) ?_ _
      by_cases hxy : x = y
      · have hnb : ((x : Int) != (y : Int)) = false := by simp [hxy]
        have HE : Hid (x = y) := hxy
        clear hxy
        go_wp2
        go_roundw
        case rel => exact ⟨.inr ⟨rfl, HE.out⟩, HX.out.drew⟩
        case measure => simp [intOf]
      · have hnb : ((x : Int) != (y : Int)) = true := by simp; omega
        have HE : Hid (x ≠ y) := hxy
        have e1 : wr.drew.cell? ⟨b1, o1, none⟩ = some (.int .u32 (x : Nat)) := d1
        have e2 : wr.drew.cell? ⟨b2, o2, none⟩ = some (.int .u32 (y : Nat)) := d2
        clear hxy
        go_wp2_with fail
        refine wp_region_held_drew (S := (fun w' => w'.cell? ⟨b1, o1, none⟩ = some (.int .u32 (x : Nat)) ∧ w'.cell? ⟨b2, o2, none⟩ = some (.int .u32 (y : Nat)))) (by kernel_rfl) ⟨e1, e2⟩ (fun hHeld => ?_)
        refine takeOp (i := 0) (v := ?_) (some 36) rfl rfl (by kernel_rfl) (by kernel_rfl) (by kernel_rfl) (fun _ _ _ h => h) (Or.inl ⟨by rfl, ?_⟩) (by assumption) ?_
        rotate_left 1
        · (intro w0 hSw; (try dsimp only at hSw); go_simp; try (with_reducible rfl))
        try simp only [Act.put]
        try simp only [List.setIfInBounds_toArray]
        try simp only [List.set_cons_succ]
        try simp only [List.set_cons_zero]
        refine takeOp (i := 1) (v := ?_) (some 37) rfl rfl (by kernel_rfl) (by kernel_rfl) (by kernel_rfl) (fun _ _ _ h => h) (Or.inl ⟨by rfl, ?_⟩) (by assumption) ?_
        rotate_left 1
        · (intro w0 hSw; (try dsimp only at hSw); go_simp; try (with_reducible rfl))
        try simp only [Act.put]
        try simp only [List.setIfInBounds_toArray]
        try simp only [List.set_cons_succ]
        try simp only [List.set_cons_zero]
        refine takeOp (i := 2) (v := ?_) (some 38) rfl rfl (by kernel_rfl) (by kernel_rfl) (by kernel_rfl) (fun _ _ _ h => h) (Or.inl ⟨by rfl, ?_⟩) (by assumption) ?_
        rotate_left 1
        · (intro w0 hSw; (try dsimp only at hSw); go_simp; try (with_reducible rfl))
        try simp only [Act.put]
        try simp only [List.setIfInBounds_toArray]
        try simp only [List.set_cons_succ]
        try simp only [List.set_cons_zero]
        refine takeOp (i := 3) (v := ?_) (some 39) rfl rfl (by kernel_rfl) (by kernel_rfl) (by kernel_rfl) (fun _ _ _ h => h) (Or.inl ⟨by rfl, ?_⟩) (by assumption) ?_
        rotate_left 1
        · (intro w0 hSw; (try dsimp only at hSw); go_simp; try (with_reducible rfl))
        try simp only [Act.put]
        try simp only [List.setIfInBounds_toArray]
        try simp only [List.set_cons_succ]
        try simp only [List.set_cons_zero]
        refine takeOp (i := 4) (v := ?_) (some 40) rfl rfl (by kernel_rfl) (by kernel_rfl) (by kernel_rfl) (fun _ _ _ h => h) (Or.inl ⟨by rfl, ?_⟩) (by assumption) ?_
        rotate_left 1
        · (intro w0 hSw; (try dsimp only at hSw); go_simp; try (with_reducible rfl))
        try simp only [Act.put]
        try simp only [List.setIfInBounds_toArray]
        try simp only [List.set_cons_succ]
        try simp only [List.set_cons_zero]
        refine takeOp (i := 5) (v := ?_) (some 41) rfl rfl (by kernel_rfl) (by kernel_rfl) (by kernel_rfl) (fun _ _ _ h => h) (Or.inl ⟨by rfl, ?_⟩) (by assumption) ?_
        rotate_left 1
        · (intro w0 hSw; (try dsimp only at hSw); go_simp; try (with_reducible rfl))
        try simp only [Act.put]
        try simp only [List.setIfInBounds_toArray]
        try simp only [List.set_cons_succ]
        try simp only [List.set_cons_zero]
        refine takeOp (i := 6) (v := ?_) (some 42) rfl rfl (by kernel_rfl) (by kernel_rfl) (by kernel_rfl) (fun _ _ _ h => h) (Or.inl ⟨by rfl, ?_⟩) (by assumption) ?_
        rotate_left 1
        · (intro w0 hSw; (try dsimp only at hSw); go_simp; try (with_reducible rfl))
        try simp only [Act.put]
        try simp only [List.setIfInBounds_toArray]
        try simp only [List.set_cons_succ]
        try simp only [List.set_cons_zero]
        refine takeOp (i := 7) (v := ?_) (some 43) rfl rfl (by kernel_rfl) (by kernel_rfl) (by kernel_rfl) (fun _ _ _ h => h) (Or.inl ⟨by rfl, ?_⟩) (by assumption) ?_
        rotate_left 1
        · (intro w0 hSw; (try dsimp only at hSw); go_simp; try (with_reducible rfl))
        try simp only [Act.put]
        try simp only [List.setIfInBounds_toArray]
        try simp only [List.set_cons_succ]
        try simp only [List.set_cons_zero]
        refine wpAnyH_ready (rs := [8]) (by kernel_rfl) (by simp) ?_
        refine AllReadyH.cons rfl (fun K hK => ?_) AllReadyH.nil
        go_simp
        refine (cmpU32_any _ _ _).mono ?_
        rintro e w6 ⟨rfl, rfl⟩
        have KEEP := And.intro e1 e2
        go_wp2_with fail
        refine hK.out _ _ KEEP (fun hHeld => ?_)
        clear hK K
        try simp only [Act.put]
        try simp only [List.setIfInBounds_toArray]
        try simp only [List.set_cons_succ]
        try simp only [List.set_cons_zero]
        refine takeOp (i := 9) (v := ?_) (some 4) rfl rfl (by kernel_rfl) (by kernel_rfl) (by kernel_rfl) (fun _ _ _ h => h) (Or.inl ⟨by rfl, ?_⟩) (by assumption) ?_
        rotate_left 1
        · (intro w0 hSw; (try dsimp only at hSw); go_simp; try (with_reducible rfl))
        try simp only [Act.put]
        try simp only [List.setIfInBounds_toArray]
        try simp only [List.set_cons_succ]
        try simp only [List.set_cons_zero]
        refine wpAnyH_done (by kernel_rfl) ?_ _
        go_wp2
        go_ret
        exact ⟨_, rfl, ⟨fun h => by have := (RL.tot_cmpI.z _ _).1 h; omega, fun h => absurd h HE.out⟩, HX.out.drew.drew⟩
    · have HE : Hid (x = y) := he
      clear he
      go_wp2
      go_ret
      exact ⟨0, rfl, ⟨fun _ => HE.out, fun _ => rfl⟩, HX.out⟩
theorem natCmp_any (a b : Value) (x y : Nat) (w : World) (ha : NatM w a x) (hb : NatM w b y) :
    Calls Try.prog 25 #[a, b] w fun e w' => ∃ z : Int, e = .returned (.int .i64 z) ∧ (z = 0 ↔ x = y) ∧ Ext w w' := by
  obtain ⟨A, C, rfl, ca, sa⟩ := ha
  obtain ⟨B, D, rfl, cb, sb⟩ := hb
  have hla : (digs x).length ≤ 1 := by unfold digs; split <;> simp
  have hlb : (digs y).length ≤ 1 := by unfold digs; split <;> simp
  have h1 := natTrim_any A C (digs x) w sa (by omega) ca
  have h2 := natTrim_any B D (digs y) w sb (by omega) cb
  rw [trim_digs] at h1 h2
  have e0 : (digs 0).length = 0 := rfl
  have e1 : ∀ u, u ≠ 0 → (digs u).length = 1 := fun u hu => by unfold digs; rw [if_neg hu]; rfl
  by_cases hx : x = 0 <;> by_cases hy : y = 0
  · subst hx hy
    exact (natCmp_00 A B C D w h1 h2).mono fun e w' ⟨h3, h4⟩ => ⟨0, h3, by simp, h4 ▸ Ext.refl _⟩
  · subst hx
    rw [e1 y hy] at *
    exact (natCmp_len A B C D 0 1 w (by omega) h1 h2).mono fun e w' ⟨h3, h4⟩ => ⟨_, h3, ⟨fun h => by simp [RL.cmpI] at h, fun h => absurd h.symm hy⟩, h4 ▸ Ext.refl _⟩
  · subst hy
    rw [e1 x hx] at *
    exact (natCmp_len A B C D 1 0 w (by omega) h1 h2).mono fun e w' ⟨h3, h4⟩ => ⟨_, h3, ⟨fun h => by simp [RL.cmpI] at h, fun h => absurd h hx⟩, h4 ▸ Ext.refl _⟩
  · have d0 : digs x = [x] := by unfold digs; rw [if_neg hx]
    have d1 : digs y = [y] := by unfold digs; rw [if_neg hy]
    rw [d0] at sa
    rw [d1] at sb
    obtain ⟨b1, o1, rfl, hb1, c1⟩ := slN_at sa (show 0 < [x].length by simp)
    obtain ⟨b2, o2, rfl, hb2, c2⟩ := slN_at sb (show 0 < [y].length by simp)
    rw [e1 x hx] at h1 ⊢
    rw [e1 y hy] at h2 ⊢
    exact natCmp_11 b1 o1 b2 o2 C D x y w c1 c2 hb1 hb2 h1 h2

end Go.Proofs.Ytiomelogggilgaa
end

section
/- Walks: the laws' same; the reference's allows. -/
namespace Go.Proofs.Ytiomelogggilgaa
open Go.RowKit Go.Sort

theorem l35same_any (XA YA : Option Addr) (XC YC : Nat) (X Y : List RL.R) (w : World) (hX : SlRs w.heap.size w XA X) (hY : SlRs w.heap.size w YA Y) (hXl : X.length ≤ 1000000) (hYl : Y.length ≤ 1000000) (hXo : RsOk X) (hYo : RsOk Y) :
    Calls Try.prog 16 #[.slice XA X.length XC, .slice YA Y.length YC] w fun e w' => e = .returned (.bool (decide (X = Y))) ∧ Below w.heap.size w w' := by
  have H1 := Lib.hid (l7Rows_any XA XC X w hX hXl hXo)
  have H2 : Hid (∀ A C W, SlRs W.heap.size W A X → Below w.heap.size w W → Calls Try.prog 35 #[.slice A X.length C, .slice YA Y.length YC] W fun e w' => e = .returned (.bool (decide (X = Y))) ∧ Ext W w') := fun A C W hW hb => r7Same_any A YA C YC X Y W hW (hY.upB hb) hXl hYl hXo hYo
  clear hX hY hXo hYo
  go_enter Try.func16, Try.ntmps16
  go_wp2_with fail
  refine H1.out.mono ?_
  rintro e w1 ⟨v, rfl, hown, hb1⟩
  obtain ⟨A, C, rfl, -, -, hs⟩ := hown.sl
  have HC := Lib.hid (H2.out A C w1 hs hb1)
  have HB := Lib.hid hb1
  clear hown hs hb1 H1 H2
  go_wp2_with fail
  refine HC.out.mono ?_
  rintro e w2 ⟨rfl, hx⟩
  have HB2 := Lib.hid (Below.then HB.out hx.below HB.out.size)
  clear hx
  go_wp2
  go_ret
  exact ⟨rfl, HB2.out⟩

end Go.Proofs.Ytiomelogggilgaa
end

section
/- Plain and walk: the reference's allows. -/
namespace Go.Proofs.Ytiomelogggilgaa
open Go.RowKit Go.Sort

/-- A row agrees with known values. -/
def agreeB (a : RA) (x r : RL.R) (j : Nat) : Bool := (List.range j).all fun k => decide ((x.length : Int) ≤ a.vs.getD k 0) || decide (r.getD k default = x.getD (a.vs.getD k 0).toNat default)
theorem agreeB_succ (a : RA) (x r : RL.R) (j : Nat) : agreeB a x r (j + 1) = (agreeB a x r j && (decide ((x.length : Int) ≤ a.vs.getD j 0) || decide (r.getD j default = x.getD (a.vs.getD j 0).toNat default))) := by
  unfold agreeB
  rw [List.range_succ, List.all_append]
  simp
def allowsB (a : RA) (x : RL.R) : Bool := a.P.any fun r => agreeB a x r a.vs.length
theorem allowsB_pre {n : Nat} {a : RA} (h : a.at.Ok n) (hnn : ∀ v ∈ a.vs, 0 ≤ v) (x : RL.R) : allowsB a x = true ↔ preA a.at x := by
  unfold allowsB preA
  rw [List.any_eq_true]
  have hd : a.at.vs.length = a.vs.length := by show (a.vs.map Int.toNat).length = _; simp
  have hpre := List.prefix_iff_eq_take.1 (filter_lt_prefix h.asc x.length)
  have hlen : (pj a.at x).length = (a.at.vs.filter fun v => decide (v < x.length)).length := by unfold pj; rw [List.length_map]
  have hcl : (pj a.at x).length ≤ a.vs.length := by rw [← hd]; exact pj_le a.at x
  have hget : ∀ k (hk : k < a.vs.length), a.at.vs[k]'(by omega) = (a.vs[k]).toNat := fun k hk => List.getElem_map (l := a.vs) Int.toNat
  have hin : ∀ k (hk : k < a.vs.length), k < (pj a.at x).length ↔ a.vs[k] < (x.length : Int) := fun k hk => by
    have h0 := hnn _ (List.getElem_mem hk)
    have hk' : k < a.at.vs.length := by omega
    rw [hlen]
    constructor
    · intro hlt
      have hm : (a.at.vs.filter fun v => decide (v < x.length))[k] ∈ a.at.vs.filter fun v => decide (v < x.length) := List.getElem_mem hlt
      have h1 := of_decide_eq_true (List.mem_filter.1 hm).2
      have e : (a.at.vs.filter fun v => decide (v < x.length))[k] = a.at.vs[k] := by
        have := List.getElem_of_eq hpre hlt
        rw [this, List.getElem_take]
      rw [e, hget k hk] at h1
      omega
    · intro hlt
      refine Nat.lt_of_not_le fun hge => ?_
      have hm : a.at.vs[k] ∈ a.at.vs.filter fun v => decide (v < x.length) := List.mem_filter.2 ⟨List.getElem_mem hk', decide_eq_true (by rw [hget k hk]; omega)⟩
      obtain ⟨j, hj, e⟩ := List.getElem_of_mem hm
      have e2 : (a.at.vs.filter fun v => decide (v < x.length))[j] = a.at.vs[j]'(by omega) := by
        have := List.getElem_of_eq hpre hj
        rw [this, List.getElem_take]
      rw [e2] at e
      have := List.pairwise_iff_getElem.1 h.asc j k (by omega) hk' (by omega)
      omega
  have hpj : ∀ k (hk : k < a.vs.length) (hkc : k < (pj a.at x).length), (pj a.at x)[k] = x.getD (a.vs[k]).toNat default := fun k hk hkc => by
    unfold pj dv at *
    rw [List.getElem_map]
    have hlt : k < (a.at.vs.filter fun v => decide (v < x.length)).length := by simpa using hkc
    have e : (a.at.vs.filter fun v => decide (v < x.length))[k] = a.at.vs[k]'(by omega) := by
      have := List.getElem_of_eq hpre hlt
      rw [this, List.getElem_take]
    rw [e, hget k hk]
  constructor
  · rintro ⟨r, hr, hag⟩
    refine ⟨r, hr, ?_⟩
    have hrl : r.length = a.vs.length := by rw [h.len r hr, hd]
    refine List.ext_getElem (by rw [List.length_take]; omega) fun k h1 h2 => ?_
    have hk : k < a.vs.length := by omega
    have h3 := List.all_eq_true.1 hag k (List.mem_range.2 hk)
    rw [Bool.or_eq_true] at h3
    rw [List.getElem_take, hpj k hk h2]
    have hvk : a.vs.getD k 0 = a.vs[k] := by rw [List.getD_eq_getElem?_getD, List.getElem?_eq_getElem hk]; rfl
    rw [hvk] at h3
    rcases h3 with h3 | h3
    · have h4 := of_decide_eq_true h3
      have := (hin k hk).1 h2
      omega
    · have h4 := of_decide_eq_true h3
      rw [← h4, List.getD_eq_getElem?_getD, List.getElem?_eq_getElem (by omega)]
      rfl
  · rintro ⟨r, hr, he⟩
    refine ⟨r, hr, List.all_eq_true.2 fun k hk => ?_⟩
    have hk := List.mem_range.1 hk
    have hrl : r.length = a.vs.length := by rw [h.len r hr, hd]
    have hvk : a.vs.getD k 0 = a.vs[k] := by rw [List.getD_eq_getElem?_getD, List.getElem?_eq_getElem hk]; rfl
    rw [hvk, Bool.or_eq_true]
    by_cases hc : a.vs[k] < (x.length : Int)
    · have hkc := (hin k hk).2 hc
      refine .inr (decide_eq_true ?_)
      rw [← hpj k hk hkc]
      have e := List.getElem_of_eq he (i := k) (by rw [List.length_take]; omega)
      rw [List.getElem_take] at e
      rw [← e, List.getD_eq_getElem?_getD, List.getElem?_eq_getElem (by omega)]
      rfl
    · exact .inl (decide_eq_true (by omega))

end Go.Proofs.Ytiomelogggilgaa
end

section
/- Walk: the reference's allows. -/
namespace Go.Proofs.Ytiomelogggilgaa
open Go.RowKit Go.Sort

set_option maxHeartbeats 8000000 in
set_option maxRecDepth 100000 in
theorem r35allows_any (VA PA XA : Option Addr) (VC PC XC : Nat) (a : RA) (x : RL.R) (w : World) (hvs : SlI .i64 w.heap.size w VA a.vs) (hP : SlRs w.heap.size w PA a.P) (hx : SlR w.heap.size w XA x) (hlen : ∀ r ∈ a.P, r.length = a.vs.length) (hnn : ∀ v ∈ a.vs, 0 ≤ v) (hvl : a.vs.length ≤ 1000000) (hPl : a.P.length ≤ 1000000) (_hxl : x.length ≤ 1000000) (hPo : RsOk a.P) (hxo : ROk x) :
    Calls Try.prog 33 #[.agg #[.slice VA a.vs.length VC, .slice PA a.P.length PC], .slice XA x.length XC] w fun e w' => e = .returned (.bool (allowsB a x)) ∧ Ext w w' := by
  obtain ⟨W1, hW1⟩ : ∃ W1, W1 = w.alloc (.cells #[.slice VA a.vs.length VC, .slice PA a.P.length PC] 79) := ⟨_, rfl⟩
  have hr1 : Row W1 w.heap.size 79 [.slice VA a.vs.length VC, .slice PA a.P.length PC] := by rw [hW1]; exact Row.new w 79 _
  have hx1 : Ext w W1 := by rw [hW1]; exact (Ext.refl w).alloc _
  have HR1 := Lib.hid hr1
  have HX1 := Lib.hid hx1
  have HVS := Lib.hid hvs
  have HP := Lib.hid hP
  have HX := Lib.hid hx
  have HLEN := Lib.hid hlen
  have HNN := Lib.hid hnn
  have HPO := Lib.hid hPo
  have HXO := Lib.hid hxo
  clear hr1 hx1 hvs hP hx hlen hnn hPo hxo
  go_enter Try.func33, Try.ntmps33
  go_wp2
  rw [← hW1]
  clear hW1
  go_loopw [5] (fun c wr => ∃ i : Nat, i ≤ a.P.length ∧ c = .int .i64 i ∧ (∀ r ∈ a.P.take i, agreeB a x r a.vs.length = false) ∧ Ext W1 wr) (fun c _ => a.P.length - (intOf c).toNat)
  case atStart => exact ⟨0, Nat.zero_le _, rfl, fun r hr => by simp at hr, Ext.refl _⟩
  case round =>
    obtain ⟨i, hi, rfl, hall, hxr⟩ := hrel
    have HALL := Lib.hid hall
    have HXR := Lib.hid hxr
    have hb := HR1.out.up hxr.below
    have b0 : wr.cell? ⟨w.heap.size, 0, none⟩ = some (.slice VA a.vs.length VC) := hb.cell 0
    have b1 : wr.cell? ⟨w.heap.size, 1, none⟩ = some (.slice PA a.P.length PC) := hb.cell 1
    have hbz := hb.lt
    clear hall hxr hb
    by_cases h1 : i < a.P.length
    rotate_left
    · have HE : Hid (allowsB a x = false) := by
        show _ = _
        unfold allowsB
        rw [List.any_eq_false]
        intro r hr
        rw [List.take_of_length_le (by omega)] at HALL
        rw [HALL.out r hr]
        decide
      go_wp2
      go_ret
      exact ⟨by rw [HE.out]; rfl, HX1.out.trans HXR.out⟩
    obtain ⟨wo, hwo⟩ : ∃ wo, wo = wr := ⟨_, rfl⟩
    subst hwo
    go_wp2_with fail
    go_loopw [6, 7] (fun s c wx => ∃ k : Nat, k ≤ a.vs.length ∧ c = .int .i64 k ∧ s = .bool (agreeB a x a.P[i] k) ∧ Ext W1 wx) (fun _ c _ => a.vs.length - (intOf c).toNat)
    case atStart => exact ⟨0, Nat.zero_le _, rfl, rfl, HXR.out⟩
    case round =>
      obtain ⟨k, hk, rfl, rfl, hxw⟩ := hrel
      have HXW := Lib.hid hxw
      have hb := HR1.out.up hxw.below
      have b0 : wr.cell? ⟨w.heap.size, 0, none⟩ = some (.slice VA a.vs.length VC) := hb.cell 0
      have b1 : wr.cell? ⟨w.heap.size, 1, none⟩ = some (.slice PA a.P.length PC) := hb.cell 1
      have hbz2 := hb.lt
      have hxx := HX1.out.trans hxw
      have HXX := Lib.hid hxx
      clear hxw hb hxx
      by_cases h2 : k < a.vs.length
      · obtain ⟨vb, vo, hva, hvb, vc⟩ := slI_at HVS.out h2
        have vc := (HXX.out.cell (o := vo + k) hvb).trans vc
        have hvb2 := Nat.lt_of_lt_of_le hvb HXX.out.size
        have hv0 := HNN.out _ (List.getElem_mem h2)
        obtain ⟨pb, po, RA', RC, hpa, hpb, pc, -, -, hrs⟩ := slRs_at HP.out h1
        have pc := (HXX.out.cell (o := po + i) hpb).trans pc
        have hpb2 := Nat.lt_of_lt_of_le hpb HXX.out.size
        have hrl := HLEN.out _ (List.getElem_mem h1)
        obtain ⟨rb, ro, hra, hrb, r0, r1, r2⟩ := slR_at hrs (i := k) (by omega)
        have r0 := (HXX.out.cell (o := ro + k * 3) hrb).trans r0
        have r1 := (HXX.out.cell (o := ro + k * 3 + 1) hrb).trans r1
        have r2 := (HXX.out.cell (o := ro + k * 3 + 2) hrb).trans r2
        have hrb2 := Nat.lt_of_lt_of_le hrb HXX.out.size
        subst hva hpa hra
        have HAS : Hid (agreeB a x a.P[i] (k + 1) = (agreeB a x a.P[i] k && (decide ((x.length : Int) ≤ a.vs[k]) || decide ((a.P[i])[k] = x.getD (a.vs[k]).toNat default)))) := by
          show _ = _
          rw [agreeB_succ, List.getD_eq_getElem?_getD, List.getElem?_eq_getElem h2, List.getD_eq_getElem?_getD (l := a.P[i]), List.getElem?_eq_getElem (by omega : k < (a.P[i]).length)]
          rfl
        have HSO := (HPO.out _ (List.getElem_mem h1)).2 _ (List.getElem_mem (by omega : k < (a.P[i]).length))
        have hrl2 : k < (a.P[i]).length := by omega
        have hw1 : IntKind.i64.wrap ((k : Int) + 1) = ((k + 1 : Nat) : Int) := by rw [IntWalk.i64_in _ (by omega)]; omega
        have g1 : (0 : Int) ≤ (k : Int) := by omega
        have g2 : (k : Int) < (a.vs.length : Int) := by omega
        have g3 : (0 : Int) ≤ (i : Int) := by omega
        have g4 : (i : Int) < (a.P.length : Int) := by omega
        have g5 : (k : Int) < ((a.P[i]).length : Int) := by omega
        generalize hag : agreeB a x a.P[i] k = ag at *
        generalize (a.P[i])[k] = u at *
        generalize (a.P[i]).length = rl at *
        obtain ⟨y, hy⟩ : ∃ y : Nat, a.vs[k] = (y : Int) := ⟨(a.vs[k]).toNat, by omega⟩
        rw [hy] at vc HAS
        rw [Int.toNat_natCast] at HAS
        clear hy hv0 hrl
        have HAG := Lib.hid hag
        clear hag
        by_cases hyx : y < x.length
        rotate_left
        · have hd : decide ((y : Int) < (x.length : Int)) = false := decide_eq_false (by omega)
          have HN : Hid (agreeB a x a.P[i] (k + 1) = ag) := by
            show _ = _
            rw [HAS.out, decide_eq_true (by omega : (x.length : Int) ≤ (y : Int))]
            simp
          clear HAS
          go_wp2_with fail
          refine wp_region_held_drew (S := (fun w' => w'.cell? ⟨w.heap.size, 0, none⟩ = some (.slice (some ⟨vb, vo, none⟩) a.vs.length VC) ∧ w'.cell? ⟨vb, vo + k, none⟩ = some (.int .i64 (y : Nat)))) (by kernel_rfl) ⟨b0, vc⟩ (fun hHeld => ?_)
          refine takeOp (i := 0) (v := ?_) (some 22) rfl rfl (by kernel_rfl) (by kernel_rfl) (by kernel_rfl) (fun _ _ _ h => h) (Or.inl ⟨by rfl, ?_⟩) (by assumption) ?_
          rotate_left 1
          · (intro w0 hSw; (try dsimp only at hSw); go_simp; try (with_reducible rfl))
          try simp only [Act.put]
          try simp only [List.setIfInBounds_toArray]
          try simp only [List.set_cons_succ]
          try simp only [List.set_cons_zero]
          refine takeOp (i := 1) (v := ?_) (some 23) rfl rfl (by kernel_rfl) (by kernel_rfl) (by kernel_rfl) (fun _ _ _ h => h) (Or.inl ⟨by rfl, ?_⟩) (by assumption) ?_
          rotate_left 1
          · (intro w0 hSw; (try dsimp only at hSw); go_simp; try (with_reducible rfl))
          try simp only [Act.put]
          try simp only [List.setIfInBounds_toArray]
          try simp only [List.set_cons_succ]
          try simp only [List.set_cons_zero]
          refine takeOp (i := 2) (v := ?_) (some 24) rfl rfl (by kernel_rfl) (by kernel_rfl) (by kernel_rfl) (fun _ _ _ h => h) (Or.inl ⟨by rfl, ?_⟩) (by assumption) ?_
          rotate_left 1
          · (intro w0 hSw; (try dsimp only at hSw); go_simp; try (with_reducible rfl))
          try simp only [Act.put]
          try simp only [List.setIfInBounds_toArray]
          try simp only [List.set_cons_succ]
          try simp only [List.set_cons_zero]
          refine takeOp (i := 3) (v := ?_) (some 25) rfl rfl (by kernel_rfl) (by kernel_rfl) (by kernel_rfl) (fun _ _ _ h => h) (Or.inl ⟨by rfl, ?_⟩) (by assumption) ?_
          rotate_left 1
          · (intro w0 hSw; (try dsimp only at hSw); go_simp; try (with_reducible rfl))
          try simp only [Act.put]
          try simp only [List.setIfInBounds_toArray]
          try simp only [List.set_cons_succ]
          try simp only [List.set_cons_zero]
          refine takeOp (i := 4) (v := ?_) (some 26) rfl rfl (by kernel_rfl) (by kernel_rfl) (by kernel_rfl) (fun _ _ _ h => h) (Or.inl ⟨by rfl, ?_⟩) (by assumption) ?_
          rotate_left 1
          · (intro w0 hSw; (try dsimp only at hSw); go_simp; try (with_reducible rfl))
          try simp only [Act.put]
          try simp only [List.setIfInBounds_toArray]
          try simp only [List.set_cons_succ]
          try simp only [List.set_cons_zero]
          refine takeOp (i := 5) (v := ?_) (some 27) rfl rfl (by kernel_rfl) (by kernel_rfl) (by kernel_rfl) (fun _ _ _ h => h) (Or.inl ⟨by rfl, ?_⟩) (by assumption) ?_
          rotate_left 1
          · (intro w0 hSw; (try dsimp only at hSw); go_simp; try (with_reducible rfl))
          try simp only [Act.put]
          try simp only [List.setIfInBounds_toArray]
          try simp only [List.set_cons_succ]
          try simp only [List.set_cons_zero]
          refine takeOp (i := 6) (v := ?_) (some 28) rfl rfl (by kernel_rfl) (by kernel_rfl) (by kernel_rfl) (fun _ _ _ h => h) (Or.inl ⟨by rfl, ?_⟩) (by assumption) ?_
          rotate_left 1
          · (intro w0 hSw; (try dsimp only at hSw); go_simp; try (with_reducible rfl))
          try simp only [Act.put]
          try simp only [List.setIfInBounds_toArray]
          try simp only [List.set_cons_succ]
          try simp only [List.set_cons_zero]
          refine takeOp (i := 7) (v := ?_) (some 29) rfl rfl (by kernel_rfl) (by kernel_rfl) (by kernel_rfl) (fun _ _ _ h => h) (Or.inl ⟨by rfl, ?_⟩) (by assumption) ?_
          rotate_left 1
          · (intro w0 hSw; (try dsimp only at hSw); go_simp; try (with_reducible rfl))
          try simp only [Act.put]
          try simp only [List.setIfInBounds_toArray]
          try simp only [List.set_cons_succ]
          try simp only [List.set_cons_zero]
          refine takeOp (i := 8) (v := ?_) (some 30) rfl rfl (by kernel_rfl) (by kernel_rfl) (by kernel_rfl) (fun _ _ _ h => h) (Or.inl ⟨by rfl, ?_⟩) (by assumption) ?_
          rotate_left 1
          · (intro w0 hSw; (try dsimp only at hSw); go_simp; try (with_reducible rfl))
          try simp only [Act.put]
          try simp only [List.setIfInBounds_toArray]
          try simp only [List.set_cons_succ]
          try simp only [List.set_cons_zero]
          refine takeOp (i := 9) (v := undef) (some 31) rfl rfl (by kernel_rfl) (by kernel_rfl) (by kernel_rfl) (fun _ _ _ h => h) (Or.inr ⟨by rfl, rfl⟩) (by assumption) ?_
          try simp only [Act.put]
          try simp only [List.setIfInBounds_toArray]
          try simp only [List.set_cons_succ]
          try simp only [List.set_cons_zero]
          refine takeOp (i := 10) (v := undef) (some 32) rfl rfl (by kernel_rfl) (by kernel_rfl) (by kernel_rfl) (fun _ _ _ h => h) (Or.inr ⟨by rfl, rfl⟩) (by assumption) ?_
          try simp only [Act.put]
          try simp only [List.setIfInBounds_toArray]
          try simp only [List.set_cons_succ]
          try simp only [List.set_cons_zero]
          refine takeOp (i := 11) (v := undef) (some 33) rfl rfl (by kernel_rfl) (by kernel_rfl) (by kernel_rfl) (fun _ _ _ h => h) (Or.inr ⟨by rfl, rfl⟩) (by assumption) ?_
          try simp only [Act.put]
          try simp only [List.setIfInBounds_toArray]
          try simp only [List.set_cons_succ]
          try simp only [List.set_cons_zero]
          refine takeOp (i := 12) (v := undef) (some 34) rfl rfl (by kernel_rfl) (by kernel_rfl) (by kernel_rfl) (fun _ _ _ h => h) (Or.inr ⟨by rfl, rfl⟩) (by assumption) ?_
          try simp only [Act.put]
          try simp only [List.setIfInBounds_toArray]
          try simp only [List.set_cons_succ]
          try simp only [List.set_cons_zero]
          refine takeOp (i := 13) (v := undef) (some 35) rfl rfl (by kernel_rfl) (by kernel_rfl) (by kernel_rfl) (fun _ _ _ h => h) (Or.inr ⟨by rfl, rfl⟩) (by assumption) ?_
          try simp only [Act.put]
          try simp only [List.setIfInBounds_toArray]
          try simp only [List.set_cons_succ]
          try simp only [List.set_cons_zero]
          refine takeOp (i := 14) (v := undef) (some 36) rfl rfl (by kernel_rfl) (by kernel_rfl) (by kernel_rfl) (fun _ _ _ h => h) (Or.inr ⟨by rfl, rfl⟩) (by assumption) ?_
          try simp only [Act.put]
          try simp only [List.setIfInBounds_toArray]
          try simp only [List.set_cons_succ]
          try simp only [List.set_cons_zero]
          refine takeOp (i := 15) (v := undef) (some 37) rfl rfl (by kernel_rfl) (by kernel_rfl) (by kernel_rfl) (fun _ _ _ h => h) (Or.inr ⟨by rfl, rfl⟩) (by assumption) ?_
          try simp only [Act.put]
          try simp only [List.setIfInBounds_toArray]
          try simp only [List.set_cons_succ]
          try simp only [List.set_cons_zero]
          refine takeOp (i := 16) (v := undef) (some 38) rfl rfl (by kernel_rfl) (by kernel_rfl) (by kernel_rfl) (fun _ _ _ h => h) (Or.inr ⟨by rfl, rfl⟩) (by assumption) ?_
          try simp only [Act.put]
          try simp only [List.setIfInBounds_toArray]
          try simp only [List.set_cons_succ]
          try simp only [List.set_cons_zero]
          refine takeOp (i := 17) (v := undef) (some 39) rfl rfl (by kernel_rfl) (by kernel_rfl) (by kernel_rfl) (fun _ _ _ h => h) (Or.inr ⟨by rfl, rfl⟩) (by assumption) ?_
          try simp only [Act.put]
          try simp only [List.setIfInBounds_toArray]
          try simp only [List.set_cons_succ]
          try simp only [List.set_cons_zero]
          refine takeOp (i := 18) (v := undef) (some 40) rfl rfl (by kernel_rfl) (by kernel_rfl) (by kernel_rfl) (fun _ _ _ h => h) (Or.inr ⟨by rfl, rfl⟩) (by assumption) ?_
          try simp only [Act.put]
          try simp only [List.setIfInBounds_toArray]
          try simp only [List.set_cons_succ]
          try simp only [List.set_cons_zero]
          refine takeOp (i := 19) (v := undef) (some 41) rfl rfl (by kernel_rfl) (by kernel_rfl) (by kernel_rfl) (fun _ _ _ h => h) (Or.inr ⟨by rfl, rfl⟩) (by assumption) ?_
          try simp only [Act.put]
          try simp only [List.setIfInBounds_toArray]
          try simp only [List.set_cons_succ]
          try simp only [List.set_cons_zero]
          refine takeOp (i := 20) (v := undef) (some 42) rfl rfl (by kernel_rfl) (by kernel_rfl) (by kernel_rfl) (fun _ _ _ h => h) (Or.inr ⟨by rfl, rfl⟩) (by assumption) ?_
          try simp only [Act.put]
          try simp only [List.setIfInBounds_toArray]
          try simp only [List.set_cons_succ]
          try simp only [List.set_cons_zero]
          refine takeOp (i := 21) (v := undef) (some 43) rfl rfl (by kernel_rfl) (by kernel_rfl) (by kernel_rfl) (fun _ _ _ h => h) (Or.inr ⟨by rfl, rfl⟩) (by assumption) ?_
          try simp only [Act.put]
          try simp only [List.setIfInBounds_toArray]
          try simp only [List.set_cons_succ]
          try simp only [List.set_cons_zero]
          refine takeOp (i := 22) (v := undef) (some 44) rfl rfl (by kernel_rfl) (by kernel_rfl) (by kernel_rfl) (fun _ _ _ h => h) (Or.inr ⟨by rfl, rfl⟩) (by assumption) ?_
          try simp only [Act.put]
          try simp only [List.setIfInBounds_toArray]
          try simp only [List.set_cons_succ]
          try simp only [List.set_cons_zero]
          refine takeOp (i := 23) (v := undef) (some 45) rfl rfl (by kernel_rfl) (by kernel_rfl) (by kernel_rfl) (fun _ _ _ h => h) (Or.inr ⟨by rfl, rfl⟩) (by assumption) ?_
          try simp only [Act.put]
          try simp only [List.setIfInBounds_toArray]
          try simp only [List.set_cons_succ]
          try simp only [List.set_cons_zero]
          refine takeOp (i := 24) (v := undef) (some 46) rfl rfl (by kernel_rfl) (by kernel_rfl) (by kernel_rfl) (fun _ _ _ h => h) (Or.inr ⟨by rfl, rfl⟩) (by assumption) ?_
          try simp only [Act.put]
          try simp only [List.setIfInBounds_toArray]
          try simp only [List.set_cons_succ]
          try simp only [List.set_cons_zero]
          refine takeOp (i := 25) (v := undef) (some 47) rfl rfl (by kernel_rfl) (by kernel_rfl) (by kernel_rfl) (fun _ _ _ h => h) (Or.inr ⟨by rfl, rfl⟩) (by assumption) ?_
          try simp only [Act.put]
          try simp only [List.setIfInBounds_toArray]
          try simp only [List.set_cons_succ]
          try simp only [List.set_cons_zero]
          refine takeOp (i := 26) (v := undef) (some 48) rfl rfl (by kernel_rfl) (by kernel_rfl) (by kernel_rfl) (fun _ _ _ h => h) (Or.inr ⟨by rfl, rfl⟩) (by assumption) ?_
          try simp only [Act.put]
          try simp only [List.setIfInBounds_toArray]
          try simp only [List.set_cons_succ]
          try simp only [List.set_cons_zero]
          refine takeOp (i := 27) (v := ?_) (some 49) rfl rfl (by kernel_rfl) (by kernel_rfl) (by kernel_rfl) (fun _ _ _ h => h) (Or.inl ⟨by rfl, ?_⟩) (by assumption) ?_
          rotate_left 1
          · (intro w0 hSw; (try dsimp only at hSw); go_simp; try (with_reducible rfl))
          try simp only [Act.put]
          try simp only [List.setIfInBounds_toArray]
          try simp only [List.set_cons_succ]
          try simp only [List.set_cons_zero]
          refine wpAnyH_done (by kernel_rfl) ?_ _
          go_wp2
          go_roundw
          case rel => exact ⟨k + 1, h2, by go_num, by rw [HN.out], HXW.out.drew⟩
          case measure => simp [intOf]; omega
        have hd : decide ((y : Int) < (x.length : Int)) = true := decide_eq_true (by omega)
        obtain ⟨xb, xo, hxa, hxb, x0, x1, x2⟩ := slR_at HX.out hyx
        subst hxa
        have x0 := (HXX.out.cell (o := xo + y * 3) hxb).trans x0
        have x1 := (HXX.out.cell (o := xo + y * 3 + 1) hxb).trans x1
        have x2 := (HXX.out.cell (o := xo + y * 3 + 2) hxb).trans x2
        have hxb2 := Nat.lt_of_lt_of_le hxb HXX.out.size
        have HXS := Lib.hid (HXO.out.2 _ (List.getElem_mem hyx))
        have HN : Hid (agreeB a x a.P[i] (k + 1) = (ag && decide (u = x[y]))) := by
          show _ = _
          rw [HAS.out, decide_eq_false (by omega : ¬ (x.length : Int) ≤ (y : Int)), Bool.false_or, List.getD_eq_getElem?_getD, List.getElem?_eq_getElem hyx]
          rfl
        have HSO2 := Lib.hid HSO
        clear HAS HSO
        generalize x[y] = z at *
        have g6 : (0 : Int) ≤ (y : Int) := by omega
        have g7 : (y : Int) < (x.length : Int) := by omega
        go_wp2_with fail
        refine wp_region_held_drew (S := (fun w' => w'.cell? ⟨w.heap.size, 0, none⟩ = some (.slice (some ⟨vb, vo, none⟩) a.vs.length VC) ∧ w'.cell? ⟨w.heap.size, 1, none⟩ = some (.slice (some ⟨pb, po, none⟩) a.P.length PC) ∧ w'.cell? ⟨vb, vo + k, none⟩ = some (.int .i64 (y : Nat)) ∧ w'.cell? ⟨pb, po + i, none⟩ = some (.slice (some ⟨rb, ro, none⟩) rl RC) ∧ w'.cell? ⟨rb, ro + k * 3, none⟩ = some (.int .i64 u.kind) ∧ w'.cell? ⟨rb, ro + k * 3 + 1, none⟩ = some (.int .i64 u.int) ∧ w'.cell? ⟨rb, ro + k * 3 + 2, none⟩ = some (.string u.str) ∧ w'.cell? ⟨xb, xo + y * 3, none⟩ = some (.int .i64 z.kind) ∧ w'.cell? ⟨xb, xo + y * 3 + 1, none⟩ = some (.int .i64 z.int) ∧ w'.cell? ⟨xb, xo + y * 3 + 2, none⟩ = some (.string z.str))) (by kernel_rfl) ⟨b0, b1, vc, pc, r0, r1, r2, x0, x1, x2⟩ (fun hHeld => ?_)
        refine takeOp (i := 0) (v := ?_) (some 22) rfl rfl (by kernel_rfl) (by kernel_rfl) (by kernel_rfl) (fun _ _ _ h => h) (Or.inl ⟨by rfl, ?_⟩) (by assumption) ?_
        rotate_left 1
        · (intro w0 hSw; (try dsimp only at hSw); go_simp; try (with_reducible rfl))
        try simp only [Act.put]
        try simp only [List.setIfInBounds_toArray]
        try simp only [List.set_cons_succ]
        try simp only [List.set_cons_zero]
        refine takeOp (i := 1) (v := ?_) (some 23) rfl rfl (by kernel_rfl) (by kernel_rfl) (by kernel_rfl) (fun _ _ _ h => h) (Or.inl ⟨by rfl, ?_⟩) (by assumption) ?_
        rotate_left 1
        · (intro w0 hSw; (try dsimp only at hSw); go_simp; try (with_reducible rfl))
        try simp only [Act.put]
        try simp only [List.setIfInBounds_toArray]
        try simp only [List.set_cons_succ]
        try simp only [List.set_cons_zero]
        refine takeOp (i := 2) (v := ?_) (some 24) rfl rfl (by kernel_rfl) (by kernel_rfl) (by kernel_rfl) (fun _ _ _ h => h) (Or.inl ⟨by rfl, ?_⟩) (by assumption) ?_
        rotate_left 1
        · (intro w0 hSw; (try dsimp only at hSw); go_simp; try (with_reducible rfl))
        try simp only [Act.put]
        try simp only [List.setIfInBounds_toArray]
        try simp only [List.set_cons_succ]
        try simp only [List.set_cons_zero]
        refine takeOp (i := 3) (v := ?_) (some 25) rfl rfl (by kernel_rfl) (by kernel_rfl) (by kernel_rfl) (fun _ _ _ h => h) (Or.inl ⟨by rfl, ?_⟩) (by assumption) ?_
        rotate_left 1
        · (intro w0 hSw; (try dsimp only at hSw); go_simp; try (with_reducible rfl))
        try simp only [Act.put]
        try simp only [List.setIfInBounds_toArray]
        try simp only [List.set_cons_succ]
        try simp only [List.set_cons_zero]
        refine takeOp (i := 4) (v := ?_) (some 26) rfl rfl (by kernel_rfl) (by kernel_rfl) (by kernel_rfl) (fun _ _ _ h => h) (Or.inl ⟨by rfl, ?_⟩) (by assumption) ?_
        rotate_left 1
        · (intro w0 hSw; (try dsimp only at hSw); go_simp; try (with_reducible rfl))
        try simp only [Act.put]
        try simp only [List.setIfInBounds_toArray]
        try simp only [List.set_cons_succ]
        try simp only [List.set_cons_zero]
        refine takeOp (i := 5) (v := ?_) (some 27) rfl rfl (by kernel_rfl) (by kernel_rfl) (by kernel_rfl) (fun _ _ _ h => h) (Or.inl ⟨by rfl, ?_⟩) (by assumption) ?_
        rotate_left 1
        · (intro w0 hSw; (try dsimp only at hSw); go_simp; try (with_reducible rfl))
        try simp only [Act.put]
        try simp only [List.setIfInBounds_toArray]
        try simp only [List.set_cons_succ]
        try simp only [List.set_cons_zero]
        refine takeOp (i := 6) (v := ?_) (some 28) rfl rfl (by kernel_rfl) (by kernel_rfl) (by kernel_rfl) (fun _ _ _ h => h) (Or.inl ⟨by rfl, ?_⟩) (by assumption) ?_
        rotate_left 1
        · (intro w0 hSw; (try dsimp only at hSw); go_simp; try (with_reducible rfl))
        try simp only [Act.put]
        try simp only [List.setIfInBounds_toArray]
        try simp only [List.set_cons_succ]
        try simp only [List.set_cons_zero]
        refine takeOp (i := 7) (v := ?_) (some 29) rfl rfl (by kernel_rfl) (by kernel_rfl) (by kernel_rfl) (fun _ _ _ h => h) (Or.inl ⟨by rfl, ?_⟩) (by assumption) ?_
        rotate_left 1
        · (intro w0 hSw; (try dsimp only at hSw); go_simp; try (with_reducible rfl))
        try simp only [Act.put]
        try simp only [List.setIfInBounds_toArray]
        try simp only [List.set_cons_succ]
        try simp only [List.set_cons_zero]
        refine takeOp (i := 8) (v := ?_) (some 30) rfl rfl (by kernel_rfl) (by kernel_rfl) (by kernel_rfl) (fun _ _ _ h => h) (Or.inl ⟨by rfl, ?_⟩) (by assumption) ?_
        rotate_left 1
        · (intro w0 hSw; (try dsimp only at hSw); go_simp; try (with_reducible rfl))
        try simp only [Act.put]
        try simp only [List.setIfInBounds_toArray]
        try simp only [List.set_cons_succ]
        try simp only [List.set_cons_zero]
        refine takeOp (i := 9) (v := ?_) (some 31) rfl rfl (by kernel_rfl) (by kernel_rfl) (by kernel_rfl) (fun _ _ _ h => h) (Or.inl ⟨by rfl, ?_⟩) (by assumption) ?_
        rotate_left 1
        · (intro w0 hSw; (try dsimp only at hSw); go_simp; try (with_reducible rfl))
        try simp only [Act.put]
        try simp only [List.setIfInBounds_toArray]
        try simp only [List.set_cons_succ]
        try simp only [List.set_cons_zero]
        refine takeOp (i := 10) (v := ?_) (some 32) rfl rfl (by kernel_rfl) (by kernel_rfl) (by kernel_rfl) (fun _ _ _ h => h) (Or.inl ⟨by rfl, ?_⟩) (by assumption) ?_
        rotate_left 1
        · (intro w0 hSw; (try dsimp only at hSw); go_simp; try (with_reducible rfl))
        try simp only [Act.put]
        try simp only [List.setIfInBounds_toArray]
        try simp only [List.set_cons_succ]
        try simp only [List.set_cons_zero]
        refine takeOp (i := 11) (v := ?_) (some 33) rfl rfl (by kernel_rfl) (by kernel_rfl) (by kernel_rfl) (fun _ _ _ h => h) (Or.inl ⟨by rfl, ?_⟩) (by assumption) ?_
        rotate_left 1
        · (intro w0 hSw; (try dsimp only at hSw); go_simp; try (with_reducible rfl))
        try simp only [Act.put]
        try simp only [List.setIfInBounds_toArray]
        try simp only [List.set_cons_succ]
        try simp only [List.set_cons_zero]
        refine takeOp (i := 12) (v := ?_) (some 34) rfl rfl (by kernel_rfl) (by kernel_rfl) (by kernel_rfl) (fun _ _ _ h => h) (Or.inl ⟨by rfl, ?_⟩) (by assumption) ?_
        rotate_left 1
        · (intro w0 hSw; (try dsimp only at hSw); go_simp; try (with_reducible rfl))
        try simp only [Act.put]
        try simp only [List.setIfInBounds_toArray]
        try simp only [List.set_cons_succ]
        try simp only [List.set_cons_zero]
        refine takeOp (i := 13) (v := ?_) (some 35) rfl rfl (by kernel_rfl) (by kernel_rfl) (by kernel_rfl) (fun _ _ _ h => h) (Or.inl ⟨by rfl, ?_⟩) (by assumption) ?_
        rotate_left 1
        · (intro w0 hSw; (try dsimp only at hSw); go_simp; try (with_reducible rfl))
        try simp only [Act.put]
        try simp only [List.setIfInBounds_toArray]
        try simp only [List.set_cons_succ]
        try simp only [List.set_cons_zero]
        refine takeOp (i := 14) (v := ?_) (some 36) rfl rfl (by kernel_rfl) (by kernel_rfl) (by kernel_rfl) (fun _ _ _ h => h) (Or.inl ⟨by rfl, ?_⟩) (by assumption) ?_
        rotate_left 1
        · (intro w0 hSw; (try dsimp only at hSw); go_simp; try (with_reducible rfl))
        try simp only [Act.put]
        try simp only [List.setIfInBounds_toArray]
        try simp only [List.set_cons_succ]
        try simp only [List.set_cons_zero]
        refine takeOp (i := 15) (v := ?_) (some 37) rfl rfl (by kernel_rfl) (by kernel_rfl) (by kernel_rfl) (fun _ _ _ h => h) (Or.inl ⟨by rfl, ?_⟩) (by assumption) ?_
        rotate_left 1
        · (intro w0 hSw; (try dsimp only at hSw); go_simp; try (with_reducible rfl))
        try simp only [Act.put]
        try simp only [List.setIfInBounds_toArray]
        try simp only [List.set_cons_succ]
        try simp only [List.set_cons_zero]
        refine takeOp (i := 16) (v := ?_) (some 38) rfl rfl (by kernel_rfl) (by kernel_rfl) (by kernel_rfl) (fun _ _ _ h => h) (Or.inl ⟨by rfl, ?_⟩) (by assumption) ?_
        rotate_left 1
        · (intro w0 hSw; (try dsimp only at hSw); go_simp; try (with_reducible rfl))
        try simp only [Act.put]
        try simp only [List.setIfInBounds_toArray]
        try simp only [List.set_cons_succ]
        try simp only [List.set_cons_zero]
        refine takeOp (i := 17) (v := ?_) (some 39) rfl rfl (by kernel_rfl) (by kernel_rfl) (by kernel_rfl) (fun _ _ _ h => h) (Or.inl ⟨by rfl, ?_⟩) (by assumption) ?_
        rotate_left 1
        · (intro w0 hSw; (try dsimp only at hSw); go_simp; try (with_reducible rfl))
        try simp only [Act.put]
        try simp only [List.setIfInBounds_toArray]
        try simp only [List.set_cons_succ]
        try simp only [List.set_cons_zero]
        refine takeOp (i := 18) (v := ?_) (some 40) rfl rfl (by kernel_rfl) (by kernel_rfl) (by kernel_rfl) (fun _ _ _ h => h) (Or.inl ⟨by rfl, ?_⟩) (by assumption) ?_
        rotate_left 1
        · (intro w0 hSw; (try dsimp only at hSw); go_simp; try (with_reducible rfl))
        try simp only [Act.put]
        try simp only [List.setIfInBounds_toArray]
        try simp only [List.set_cons_succ]
        try simp only [List.set_cons_zero]
        refine takeOp (i := 19) (v := ?_) (some 41) rfl rfl (by kernel_rfl) (by kernel_rfl) (by kernel_rfl) (fun _ _ _ h => h) (Or.inl ⟨by rfl, ?_⟩) (by assumption) ?_
        rotate_left 1
        · (intro w0 hSw; (try dsimp only at hSw); go_simp; try (with_reducible rfl))
        try simp only [Act.put]
        try simp only [List.setIfInBounds_toArray]
        try simp only [List.set_cons_succ]
        try simp only [List.set_cons_zero]
        refine takeOp (i := 20) (v := ?_) (some 42) rfl rfl (by kernel_rfl) (by kernel_rfl) (by kernel_rfl) (fun _ _ _ h => h) (Or.inl ⟨by rfl, ?_⟩) (by assumption) ?_
        rotate_left 1
        · (intro w0 hSw; (try dsimp only at hSw); go_simp; try (with_reducible rfl))
        try simp only [Act.put]
        try simp only [List.setIfInBounds_toArray]
        try simp only [List.set_cons_succ]
        try simp only [List.set_cons_zero]
        refine takeOp (i := 21) (v := ?_) (some 43) rfl rfl (by kernel_rfl) (by kernel_rfl) (by kernel_rfl) (fun _ _ _ h => h) (Or.inl ⟨by rfl, ?_⟩) (by assumption) ?_
        rotate_left 1
        · (intro w0 hSw; (try dsimp only at hSw); go_simp; try (with_reducible rfl))
        try simp only [Act.put]
        try simp only [List.setIfInBounds_toArray]
        try simp only [List.set_cons_succ]
        try simp only [List.set_cons_zero]
        refine takeOp (i := 22) (v := ?_) (some 44) rfl rfl (by kernel_rfl) (by kernel_rfl) (by kernel_rfl) (fun _ _ _ h => h) (Or.inl ⟨by rfl, ?_⟩) (by assumption) ?_
        rotate_left 1
        · (intro w0 hSw; (try dsimp only at hSw); go_simp; try (with_reducible rfl))
        try simp only [Act.put]
        try simp only [List.setIfInBounds_toArray]
        try simp only [List.set_cons_succ]
        try simp only [List.set_cons_zero]
        refine takeOp (i := 23) (v := ?_) (some 45) rfl rfl (by kernel_rfl) (by kernel_rfl) (by kernel_rfl) (fun _ _ _ h => h) (Or.inl ⟨by rfl, ?_⟩) (by assumption) ?_
        rotate_left 1
        · (intro w0 hSw; (try dsimp only at hSw); go_simp; try (with_reducible rfl))
        try simp only [Act.put]
        try simp only [List.setIfInBounds_toArray]
        try simp only [List.set_cons_succ]
        try simp only [List.set_cons_zero]
        refine takeOp (i := 24) (v := ?_) (some 46) rfl rfl (by kernel_rfl) (by kernel_rfl) (by kernel_rfl) (fun _ _ _ h => h) (Or.inl ⟨by rfl, ?_⟩) (by assumption) ?_
        rotate_left 1
        · (intro w0 hSw; (try dsimp only at hSw); go_simp; try (with_reducible rfl))
        try simp only [Act.put]
        try simp only [List.setIfInBounds_toArray]
        try simp only [List.set_cons_succ]
        try simp only [List.set_cons_zero]
        refine wpAnyH_ready (rs := [25]) (by kernel_rfl) (by simp) ?_
        refine AllReadyH.cons rfl (fun K hK => ?_) AllReadyH.nil
        go_simp
        refine (r1Compare_any u z wr.drew HSO2.out HXS.out).mono ?_
        rintro e w6 ⟨rfl, hx6⟩
        have hx7 : Ext wr w6 := (Ext.refl wr).drew.trans hx6
        have KEEP := (⟨(hx7.cell hbz2).trans b0, (hx7.cell hbz2).trans b1, (hx7.cell hvb2).trans vc, (hx7.cell hpb2).trans pc, (hx7.cell hrb2).trans r0, (hx7.cell hrb2).trans r1, (hx7.cell hrb2).trans r2, (hx7.cell hxb2).trans x0, (hx7.cell hxb2).trans x1, (hx7.cell hxb2).trans x2⟩ : _ ∧ _ ∧ _ ∧ _ ∧ _ ∧ _ ∧ _ ∧ _ ∧ _ ∧ _)
        have HX7 := Lib.hid (HXW.out.trans hx7)
        clear hx6 hx7
        go_wp2_with fail
        refine hK.out _ _ KEEP (fun hHeld => ?_)
        clear hK K
        try simp only [Act.put]
        try simp only [List.setIfInBounds_toArray]
        try simp only [List.set_cons_succ]
        try simp only [List.set_cons_zero]
        refine takeOp (i := 26) (v := ?_) (some 48) rfl rfl (by kernel_rfl) (by kernel_rfl) (by kernel_rfl) (fun _ _ _ h => h) (Or.inl ⟨by rfl, ?_⟩) (by assumption) ?_
        rotate_left 1
        · (intro w0 hSw; (try dsimp only at hSw); go_simp; try (with_reducible rfl))
        try simp only [Act.put]
        try simp only [List.setIfInBounds_toArray]
        try simp only [List.set_cons_succ]
        try simp only [List.set_cons_zero]
        refine takeOp (i := 27) (v := ?_) (some 49) rfl rfl (by kernel_rfl) (by kernel_rfl) (by kernel_rfl) (fun _ _ _ h => h) (Or.inl ⟨by rfl, ?_⟩) (by assumption) ?_
        rotate_left 1
        · (intro w0 hSw; (try dsimp only at hSw); go_simp; try (with_reducible rfl))
        try simp only [Act.put]
        try simp only [List.setIfInBounds_toArray]
        try simp only [List.set_cons_succ]
        try simp only [List.set_cons_zero]
        refine wpAnyH_done (by kernel_rfl) ?_ _
        clear KEEP b0 b1 vc pc r0 r1 r2 x0 x1 x2
        by_cases huz : u = z
        · have hnb : (RL.cmpV u z != 0) = false := by simp [(RL.tot_cmpV.z u z).2 huz]
          have HN2 : Hid (agreeB a x a.P[i] (k + 1) = ag) := by show _ = _; rw [HN.out, decide_eq_true huz, Bool.and_true]
          clear huz HN
          go_wp2
          go_roundw
          case rel => exact ⟨k + 1, h2, by go_num, by rw [HN2.out], HX7.out⟩
          case measure => simp [intOf]; omega
        · have hnb : (RL.cmpV u z != 0) = true := by
            have : RL.cmpV u z ≠ 0 := fun e => huz ((RL.tot_cmpV.z u z).1 e)
            simpa using this
          have HN2 : Hid (agreeB a x a.P[i] (k + 1) = false) := by show _ = _; rw [HN.out, decide_eq_false huz, Bool.and_false]
          clear huz HN
          go_wp2
          go_roundw
          case rel => exact ⟨k + 1, h2, by go_num, by rw [HN2.out], HX7.out⟩
          case measure => simp [intOf]; omega
      have HKE : Hid (k = a.vs.length) := by show _ = _; omega
      have HTP : Hid (a.P.take (i + 1) = a.P.take i ++ [a.P[i]]) := List.take_succ_eq_append_getElem h1
      have HMP : Hid (a.P[i] ∈ a.P) := List.getElem_mem h1
      cases hag : agreeB a x a.P[i] k
      · have HAG := Lib.hid hag
        have hwi : IntKind.i64.wrap ((i : Int) + 1) = ((i + 1 : Nat) : Int) := by rw [IntWalk.i64_in _ (by omega)]; omega
        clear hag
        go_wp2
        go_roundw
        case rel =>
          refine ⟨i + 1, h1, by go_num, fun r hr => ?_, HXW.out⟩
          rw [HTP.out] at hr
          rcases List.mem_append.1 hr with h | h
          · exact HALL.out r h
          · simp at h; subst h; rw [← HKE.out]; exact HAG.out
        case measure => simp [intOf]; omega
      · have HAG := Lib.hid hag
        have HE : Hid (allowsB a x = true) := by
          show _ = _
          unfold allowsB
          rw [List.any_eq_true]
          exact ⟨_, HMP.out, by rw [← HKE.out]; exact HAG.out⟩
        clear hag
        go_wp2
        go_ret
        exact ⟨by rw [HE.out]; rfl, HXX.out⟩

end Go.Proofs.Ytiomelogggilgaa
end

section
/- Plain: the values of a variable, as the reference takes them; atoms of the reference in memory. -/
namespace Go.Proofs.Ytiomelogggilgaa
open Go.RowKit Go.Sort

/-- The first atom that has a variable, and its column. -/
def colF (X : List RA) (v : Int) : Option (RA × Nat) := X.findSome? fun a => (a.vs.findIdx? (· == v)).map fun k => (a, k)
def valsF (X : List RA) (v : Int) : RL.R :=
  match colF X v with
  | some (a, k) => (RL.ofF (a.P.map (projF · [(k : Int)]))).map fun r => r.getD 0 default
  | none => []
/-- Atoms of the reference: variables and rows. -/
def AtsR (B : Nat) (w : World) (A : Option Addr) (X : List RA) : Prop :=
  X ≠ [] → ∃ b o, A = some ⟨b, o, none⟩ ∧ b < B ∧ ∀ i (h : i < X.length), ∃ VA VC PA PC, w.cell? ⟨b, o + i * 2, none⟩ = some (.slice VA X[i].vs.length VC) ∧ w.cell? ⟨b, o + i * 2 + 1, none⟩ = some (.slice PA X[i].P.length PC) ∧ X[i].vs.length ≤ VC ∧ VC ≤ 9223372036854775807 ∧ X[i].P.length ≤ PC ∧ PC ≤ 9223372036854775807 ∧ SlI .i64 B w VA X[i].vs ∧ SlRs B w PA X[i].P
section
variable {B : Nat} {w w' : World} {A : Option Addr} {X : List RA}
theorem AtsR.upB (h : AtsR w.heap.size w A X) (hb : Below w.heap.size w w') : AtsR w'.heap.size w' A X := fun hn => by
  obtain ⟨b, o, e, hlt, hc⟩ := h hn
  refine ⟨b, o, e, Nat.lt_of_lt_of_le hlt hb.size, fun i hi => ?_⟩
  obtain ⟨VA, VC, PA, PC, h1, h3, h4, h5, h6, h7, h8, h9⟩ := hc i hi
  exact ⟨VA, VC, PA, PC, (hb.cell (p := ⟨b, o + i * 2, none⟩) hlt).trans h1, (hb.cell (p := ⟨b, o + i * 2 + 1, none⟩) hlt).trans h3, h4, h5, h6, h7, (h8.below hb (Nat.le_refl _)).more hb.size, h9.upB hb⟩
theorem atsR_at (h : AtsR B w A X) {i : Nat} (hi : i < X.length) : ∃ b o VA VC PA PC, A = some ⟨b, o, none⟩ ∧ b < B ∧ w.cell? ⟨b, o + i * 2, none⟩ = some (.slice VA X[i].vs.length VC) ∧ w.cell? ⟨b, o + i * 2 + 1, none⟩ = some (.slice PA X[i].P.length PC) ∧ X[i].vs.length ≤ VC ∧ VC ≤ 9223372036854775807 ∧ X[i].P.length ≤ PC ∧ PC ≤ 9223372036854775807 ∧ SlI .i64 B w VA X[i].vs ∧ SlRs B w PA X[i].P := by
  obtain ⟨b, o, e, hlt, hc⟩ := h (by intro h0; subst h0; simp at hi)
  obtain ⟨VA, VC, PA, PC, h⟩ := hc i hi
  exact ⟨b, o, VA, VC, PA, PC, e, hlt, h⟩
end
theorem ones_asc {Y : List RL.R} (h : RL.SS Y) (h1 : ∀ r ∈ Y, r.length = 1) : (Y.map fun r => r.getD 0 default).Pairwise fun a b => RL.cmpV a b < 0 := by
  refine List.pairwise_map.2 (h.imp_of_mem fun {a b} ha hb hab => ?_)
  have ea := h1 a ha
  have eb := h1 b hb
  match a, b, ea, eb with
  | [u], [v], _, _ => rw [RL.cmpR_one] at hab; exact hab
theorem valsF_asc (X : List RA) (v : Int) : (valsF X v).Pairwise fun a b => RL.cmpV a b < 0 := by
  unfold valsF
  split
  · refine ones_asc (RL.SS.of _) fun r hr => ?_
    obtain ⟨y, _, rfl⟩ := List.mem_map.1 ((RL.mem_ofF _ _).1 hr)
    rfl
  · exact List.Pairwise.nil
theorem colF_some {X : List RA} {v : Int} (h : ∃ a ∈ X, v ∈ a.vs) : ∃ a k, colF X v = some (a, k) ∧ a ∈ X ∧ ∃ hk : k < a.vs.length, a.vs[k] = v := by
  unfold colF
  cases hq : X.findSome? (fun a => (a.vs.findIdx? (· == v)).map fun k => (a, k)) with
  | none =>
    obtain ⟨a, ha, hv⟩ := h
    have h1 := List.findSome?_eq_none_iff.1 hq a ha
    rw [Option.map_eq_none_iff, List.findIdx?_eq_none_iff] at h1
    have := h1 v hv
    simp at this
  | some p =>
    obtain ⟨a, ha, h1⟩ := List.exists_of_findSome?_eq_some hq
    obtain ⟨k, hk, rfl⟩ := Option.map_eq_some_iff.1 h1
    rw [List.findIdx?_eq_some_iff_getElem] at hk
    obtain ⟨hk1, hk2, -⟩ := hk
    exact ⟨a, k, rfl, ha, hk1, by simpa using hk2⟩
/-- How many variables of an atom are below one of its own. -/
theorem pj_len_at {n : Nat} {a : RA} (h : a.at.Ok n) {x : RL.R} {k : Nat} (hk : k < a.vs.length) (hv : a.vs[k] = (x.length : Int)) : (pj a.at x).length = k := by
  have hd : a.at.vs.length = a.vs.length := by show (a.vs.map Int.toNat).length = _; simp
  have hpre := List.prefix_iff_eq_take.1 (filter_lt_prefix h.asc x.length)
  have hlen : (pj a.at x).length = (a.at.vs.filter fun v => decide (v < x.length)).length := by unfold pj; rw [List.length_map]
  have hk' : k < a.at.vs.length := by omega
  have e1 : a.at.vs[k] = x.length := by
    have : a.at.vs[k] = (a.vs[k]).toNat := List.getElem_map (l := a.vs) Int.toNat
    rw [this, hv, Int.toNat_natCast]
  rw [hlen]
  refine Nat.le_antisymm (Nat.le_of_not_lt fun hlt => ?_) (Nat.le_of_not_lt fun hlt => ?_)
  · have hm : (a.at.vs.filter fun v => decide (v < x.length))[k] ∈ a.at.vs.filter fun v => decide (v < x.length) := List.getElem_mem hlt
    have h1 := of_decide_eq_true (List.mem_filter.1 hm).2
    have e : (a.at.vs.filter fun v => decide (v < x.length))[k] = a.at.vs[k] := by
      have := List.getElem_of_eq hpre hlt
      rw [this, List.getElem_take]
    rw [e, e1] at h1
    exact Nat.lt_irrefl _ h1
  · have hc : (a.at.vs.filter fun v => decide (v < x.length)).length < a.at.vs.length := by omega
    have h2 := List.pairwise_iff_getElem.1 h.asc _ k hc hk' hlt
    rw [e1] at h2
    have hm : a.at.vs[(a.at.vs.filter fun v => decide (v < x.length)).length] ∈ a.at.vs.filter fun v => decide (v < x.length) := List.mem_filter.2 ⟨List.getElem_mem hc, decide_eq_true h2⟩
    obtain ⟨j, hj, e⟩ := List.getElem_of_mem hm
    have e3 : (a.at.vs.filter fun v => decide (v < x.length))[j] = a.at.vs[j]'(by omega) := by
      have := List.getElem_of_eq hpre hj
      rw [this, List.getElem_take]
    rw [e3] at e
    have := List.pairwise_iff_getElem.1 h.asc j _ (by omega) hc hj
    omega
theorem valsF_mem {n : Nat} {X : List RA} (hat : ∀ a ∈ X, a.at.Ok n) (hu : ∀ v : Nat, v < n → ∃ a ∈ X, (v : Int) ∈ a.vs) (x : RL.R) (c : RL.V) (hx : x.length < n) (hp : preB (X.map RA.at) (x ++ [c])) : c ∈ valsF X (x.length : Int) := by
  obtain ⟨a, k, hcol, ha, hk, hv⟩ := colF_some (hu x.length hx)
  unfold valsF
  rw [hcol]
  obtain ⟨y, hy, he⟩ := hp a.at (List.mem_map.2 ⟨a, ha, rfl⟩)
  have hin : x.length ∈ a.at.vs := List.mem_map.2 ⟨a.vs[k], List.getElem_mem hk, by rw [hv, Int.toNat_natCast]⟩
  rw [pj_snoc (hat a ha).asc, if_pos hin, List.length_append, List.length_singleton, pj_len_at (hat a ha) hk hv] at he
  have hyl : k < y.length := by
    have := congrArg List.length he
    rw [List.length_take, List.length_append, List.length_singleton, pj_len_at (hat a ha) hk hv] at this
    omega
  have hyk : y[k] = c := by
    have h1 := List.getElem_of_eq he (i := k) (by rw [List.length_take]; omega)
    rw [List.getElem_take, List.getElem_append_right (by rw [pj_len_at (hat a ha) hk hv]; exact Nat.le_refl _)] at h1
    simpa using h1
  refine List.mem_map.2 ⟨[c], (RL.mem_ofF _ _).2 (List.mem_map.2 ⟨y, hy, ?_⟩), rfl⟩
  show [y.getD (k : Int).toNat zV] = [c]
  rw [Int.toNat_natCast, List.getD_eq_getElem?_getD, List.getElem?_eq_getElem hyl, ← hyk]
  rfl

end Go.Proofs.Ytiomelogggilgaa
end

section
/- Walk: the laws' own awake (the chapter's example). -/
namespace Go.Proofs.Ytiomelogggilgaa
open Go.RowKit Go.Sort

/-- A row of integers. -/
def intR (zs : List Int) : RL.R := zs.map fun z => ⟨1, z, ⟨#[]⟩⟩

def exX : List RL.R := [intR [2, 1], intR [1, 3], intR [1, 2]]
def exY : List RL.R := [intR [1, 2], intR [1, 3], intR [2, 1]]
theorem ex_err : errF 2 exX = 0 := by decide +kernel
theorem ex_of : RL.ofF exX = exY := by decide +kernel
theorem ex_rank : RL.rank exY (intR [1]) = 0 := by decide +kernel
theorem ex_many : RL.manyB exY (intR [1]) = 2 := by decide +kernel
theorem ex_rank2 : RL.rank exY (intR [1, 9]) = 2 := by decide +kernel
theorem ex_mem : decide (intR [1, 9] ∈ exY) = false := by decide +kernel
theorem ex_cols : colsOk 2 [0] = true := by decide +kernel
theorem ex_proj : (RL.ofF (exY.map (projF · [0]))).length = 2 := by decide +kernel
theorem ROk_int (zs : List Int) (h : zs.length ≤ 1000) : ROk (intR zs) := ⟨by simp [intR]; omega, fun v hv => by
  simp [intR] at hv
  obtain ⟨z, _, rfl⟩ := hv
  show (0 : Nat) ≤ _
  omega⟩
theorem exX_ok : RsOk exX := fun x hx => by
  simp [exX] at hx
  rcases hx with rfl | rfl | rfl <;> exact ROk_int _ (by simp)
theorem exY_ok : RsOk exY := fun x hx => by
  simp [exY] at hx
  rcases hx with rfl | rfl | rfl <;> exact ROk_int _ (by simp)
theorem exY_len : ∀ x ∈ exY, (x.length : Int) = 2 := fun x hx => by
  simp [exY] at hx
  rcases hx with rfl | rfl | rfl <;> rfl
theorem exY_ss : RL.SS exY := by rw [← ex_of]; exact RL.SS.of _

end Go.Proofs.Ytiomelogggilgaa
end

section
/- Walk: the laws' Is, where it answers true. -/
namespace Go.Proofs.Ytiomelogggilgaa
open Go.RowKit Go.Sort

theorem r7Compare_self (XA YA : Option Addr) (XC YC : Nat) (x : RL.R) (w : World) (hx : SlR w.heap.size w XA x) (hy : SlR w.heap.size w YA x) (hxo : ROk x) :
    Calls Try.prog 20 #[.slice XA x.length XC, .slice YA x.length YC] w fun e w' => e = .returned (.int .i64 0) ∧ Ext w w' := by
  have h := r7Compare_any XA YA XC YC x x w hx hy hxo hxo
  rw [(RL.tot_cmpR.z x x).2 rfl] at h
  exact h
theorem r7Same_self (XA YA : Option Addr) (XC YC : Nat) (X : List RL.R) (w : World) (hX : SlRs w.heap.size w XA X) (hY : SlRs w.heap.size w YA X) (hXl : X.length ≤ 1000000) (hXo : RsOk X) :
    Calls Try.prog 35 #[.slice XA X.length XC, .slice YA X.length YC] w fun e w' => e = .returned (.bool true) ∧ Ext w w' := by
  have h := r7Same_any XA YA XC YC X X w hX hY hXl hXl hXo hXo
  simpa using h

end Go.Proofs.Ytiomelogggilgaa
end

section
/- Walk: the reference's Project. -/
namespace Go.Proofs.Ytiomelogggilgaa
open Go.RowKit Go.Sort

theorem step1W {w : World} {ops : Array Oper} {o : Oper} {a : Act} {K : Act → World → Prop} {Q : Exit → Act → World → Prop} {E : Prop} (hgd : o.guard = none) (s x : Operand)
    (ho : o.op = .call { callee := .builtin .append, args := #[s, x], argTypes := #[56, 56] })
    (base : Nat) (v : Value) (l : RL.R) (hs : a.eval s = v) (hown : w.ownsRow base 85 3 v l.length (rcells l))
    (gt : Nat) (z : RL.V) (hx : a.eval x = .slice (some ⟨gt, 0, none⟩) 1 1) (h0 : w.cell? ⟨gt, 0, none⟩ = some (.int .i64 z.kind)) (h1 : w.cell? ⟨gt, 1, none⟩ = some (.int .i64 z.int)) (h2 : w.cell? ⟨gt, 2, none⟩ = some (.string z.str))
    (hn : l.length ≤ 100000000) (hbase : base ≤ w.heap.size)
    (h : ∀ v' w', w'.ownsRow base 85 3 v' (l ++ [z]).length (rcells (l ++ [z])) → w.grownBy w' v.ownBlock → K (a.put o.dst v') w') :
    if Region.wanted o (yielded ops a.tmps) = true then Oper.wp Try.prog o a w K Q else E := by
  obtain ⟨i0, hi0, hz0, hz1, hz2⟩ := info_parts r1Info
  refine step_append_lies w hgd s x 56 ho base 85 i0 _ 3 32 Try.underlying56 hi0 hz0 hz1 hz2 rfl (by decide) v l.length (rcells l) hs hown ⟨gt, 0, none⟩ 1 1 (vcells z) hx rfl ?_ ?_ (by decide) (by simp only [maxLen]; omega) (by omega) hbase w.heap.size rfl ?_
  · intro j u hu
    match j with
    | 0 => simp [vcells] at hu; subst hu; exact h0
    | 1 => simp [vcells] at hu; subst hu; exact h1
    | 2 => simp [vcells] at hu; subst hu; exact h2
    | j + 3 => simp [vcells] at hu
  · intro u hu; simp [vcells] at hu; rcases hu with rfl | rfl | rfl <;> rfl
  · intro g cap w' k1 k2 _ _
    refine h _ w' ?_ k2
    rw [rcells_append, List.length_append]
    simpa [rcells] using k1

theorem own_drew {w : World} {base : Nat} {e : TypeId} {size : Nat} {v : Value} {n : Nat} {xs : List Value} (h : w.ownsRow base e size v n xs) : w.drew.ownsRow base e size v n xs := h

theorem projF_snoc (x : RL.R) (cs : List Int) (k : Nat) (h : k < cs.length) : projF x (cs.take (k + 1)) = projF x (cs.take k) ++ [x.getD cs[k].toNat zV] := by
  unfold projF
  rw [List.take_succ_eq_append_getElem h, List.map_append]
  rfl

theorem projF_ok {x : RL.R} {cs : List Int} (hx : ROk x) (hv : ∀ c ∈ cs, 0 ≤ c ∧ c < (x.length : Int)) (hl : cs.length ≤ 1000) : ROk (projF x cs) := by
  refine ⟨by rw [projF_length]; omega, fun v hv2 => ?_⟩
  obtain ⟨c, hc, rfl⟩ := List.mem_map.1 hv2
  obtain ⟨h0, h1⟩ := hv c hc
  have hlt : c.toNat < x.length := by omega
  have e : x.getD c.toNat zV = x[c.toNat] := by simp [List.getD, hlt]
  rw [e]
  exact hx.2 _ (List.getElem_mem hlt)

set_option maxHeartbeats 1000000 in
set_option maxRecDepth 100000 in
theorem r7Project_any (XA CA : Option Addr) (XC CC : Nat) (X : List RL.R) (cs : List Int) (w : World) (hX : SlRs w.heap.size w XA X) (hc : SlI .i64 w.heap.size w CA cs) (hXl : X.length ≤ 100000) (hcl : cs.length ≤ 1000) (hXo : RsOk X) (hv : ∀ x ∈ X, ∀ c ∈ cs, 0 ≤ c ∧ c < (x.length : Int)) :
    Calls Try.prog 55 #[.slice XA X.length XC, .slice CA cs.length CC] w fun e w' => ∃ v, e = .returned v ∧ RowsIs w' (RL.ofF (X.map (projF · cs))) v ∧ Below w.heap.size w w' := by
  have HX := Lib.hid hX
  have HC := Lib.hid hc
  have HXO := Lib.hid hXo
  have HV := Lib.hid hv
  clear hX hXo hc hv
  go_enter Try.func55, Try.ntmps55
  go_wp2
  go_loopw [5, 6] (fun v i wr => ∃ k : Nat, k ≤ X.length ∧ i = .int .i64 k ∧ RowsIs wr (RL.ofF ((X.take k).map (projF · cs))) v ∧ Below w.heap.size w wr) (fun _ i _ => X.length - (intOf i).toNat)
  case atStart => exact ⟨0, Nat.zero_le _, rfl, ⟨none, 0, rfl, by simp [RL.ofF], by omega, SlRs.nil⟩, Below.refl _ _⟩
  case round =>
    obtain ⟨k, hka, rfl, hrows, hbel⟩ := hrel
    have HR := Lib.hid hrows
    have HB := Lib.hid hbel
    have hzz := hbel.size
    clear hrows
    by_cases h1 : k < X.length
    · obtain ⟨b, o, A1, C1, rfl, hb, c1, hcap, hcm, s1⟩ := slRs_at HX.out h1
      have d1 := (hbel.cell (p := ⟨b, o + k, none⟩) hb).trans c1
      have HS1 := Lib.hid ((s1.below hbel (Nat.le_refl _)))
      have HVk := Lib.hid (HV.out X[k] (List.getElem_mem h1))
      have HN2 : Hid (RL.ofF ((X.take (k + 1)).map (projF · cs)) = RL.insF (RL.ofF ((X.take k).map (projF · cs))) (projF X[k] cs)) := by
        show _ = _
        have h := ofF_snoc (X.map (projF · cs)) k (by simpa using h1)
        rw [← List.map_take, ← List.map_take, List.getElem_map] at h
        exact h
      have HPO := Lib.hid (projF_ok (HXO.out.at_ h1) HVk.out hcl)
      have HYO : Hid (RsOk (RL.ofF ((X.take k).map (projF · cs)))) := fun y hy => by
        obtain ⟨z, hz, rfl⟩ := List.mem_map.1 ((RL.mem_ofF _ _).1 hy)
        have hz' := List.mem_of_mem_take hz
        exact projF_ok (HXO.out z hz') (HV.out z hz') hcl
      have hYl : (RL.ofF ((X.take k).map (projF · cs))).length ≤ 100000 := by
        have h := RL.ofF_length_le ((X.take k).map (projF · cs))
        rw [List.length_map, List.length_take] at h
        omega
      clear c1 s1 hbel hcap hcm
      generalize X[k] = x at d1 HS1 HVk HN2 HPO
      generalize RL.ofF ((X.take k).map (projF · cs)) = Y1 at HR HYO HN2 hYl
      obtain ⟨wo, hwo⟩ : ∃ wo, wo = wr := ⟨_, rfl⟩
      subst hwo
      go_wp2
      go_loopw [7, 8] (fun v i wr2 => ∃ j : Nat, j ≤ cs.length ∧ i = .int .i64 j ∧ wr2.ownsRow wo.heap.size 85 3 v (projF x (cs.take j)).length (rcells (projF x (cs.take j))) ∧ Below wo.heap.size wo wr2) (fun _ i _ => cs.length - (intOf i).toNat)
      case atStart => exact ⟨0, Nat.zero_le _, rfl, own_nil _ _ _ _, Below.refl _ _⟩
      case round =>
        obtain ⟨j, hja, rfl, hown, hbel2⟩ := hrel
        have HO := Lib.hid hown
        have HB2 := Lib.hid hbel2
        have hz2 := hbel2.size
        clear hown
        by_cases h2 : j < cs.length
        · obtain ⟨b2, o2, rfl, hb2, q1⟩ := slI_at HC.out h2
          obtain ⟨v1, v2⟩ := HVk.out cs[j] (List.getElem_mem h2)
          have HN := Lib.hid (projF_snoc x cs j h2)
          have e1 := ((hbel2.cell (p := ⟨b2, o2 + j, none⟩) (show b2 < wo.heap.size by omega)).trans ((HB.out.cell (p := ⟨b2, o2 + j, none⟩) hb2).trans q1))
          have e2 := (hbel2.cell (p := ⟨b, o + k, none⟩) (show b < wo.heap.size by omega)).trans d1
          generalize cs[j] = c at v1 v2 HN e1 q1
          obtain ⟨q, rfl⟩ := Int.eq_ofNat_of_zero_le v1
          have hq : q < x.length := by omega
          rw [getD_at hq] at HN
          obtain ⟨b3, o3, rfl, hb3, f1, f2, f3⟩ := slR_at HS1.out hq
          have g1 := (hbel2.cell (p := ⟨b3, o3 + q * 3, none⟩) (show b3 < wo.heap.size by omega)).trans f1
          have g2 := (hbel2.cell (p := ⟨b3, o3 + q * 3 + 1, none⟩) (show b3 < wo.heap.size by omega)).trans f2
          have g3 := (hbel2.cell (p := ⟨b3, o3 + q * 3 + 2, none⟩) (show b3 < wo.heap.size by omega)).trans f3
          clear f1 f2 f3 q1 hbel2 d1
          generalize x[q] = u at g1 g2 g3 HN
          go_wp2
          go_region_law (refine step1W rfl (.tmp 21) (.tmp 32) rfl wo.heap.size u7 (projF x (cs.take j)) (by simp [Act.eval]) (own_drew (HO.out.alloc _)) wr.heap.size u (by simp [Act.eval]) (by go_simp) (by go_simp) (by go_simp) (by simp [projF_length]; omega) (by simp; omega) ?_
                         intro v' w1 hown1 hg1
                         have HO1 := Lib.hid hown1
                         have HB1 := Lib.hid (Below.then (HB2.out.alloc hz2 _).drew (app_grown (B := wo.heap.size) hg1 (fun g hg => own_base HO.out hg) (by simp; omega)) (Nat.le_refl _))
                         clear hown1 hg1)
          all_goals
            first | done | skip
            try go_wp2
            first
              | exact ⟨⟨j + 1, by omega, by go_num, by rw [HN.out]; exact HO1.out, HB1.out⟩, by simp [intOf]; omega⟩
              | (go_roundw
                 case rel => exact ⟨j + 1, by omega, by go_num, by rw [HN.out]; exact HO1.out, HB1.out⟩
                 case measure => simp [intOf]; omega)
        · have HT := Lib.hid (List.take_of_length_le (show cs.length ≤ j by omega))
          rw [HT.out] at HO
          obtain ⟨-, A5, C5, rfl, hc5, hm5, hs5, -⟩ := SlR.of_own HO.out
          obtain ⟨VA, VC, rfl, hv1, hv2, hv3⟩ := HR.out
          have HC5 := Lib.hid (r7Insert_any VA A5 VC C5 Y1 (projF x cs) wr (hv3.upB hbel2) hs5 hYl HYO.out HPO.out hv1 hv2 hc5 hm5)
          clear hs5 hv3 HO
          generalize projF x cs = pc at hc5 HC5 HN2 HPO ⊢
          go_wp2_with fail
          refine HC5.out.mono ?_
          rintro e w6 ⟨v6, rfl, hr6, hb6⟩
          have HR6 := Lib.hid hr6
          have HB6 := Lib.hid (Below.then HB.out (Below.then hbel2 hb6 hz2) hzz)
          clear hr6 hb6 HC5
          go_wp2
          go_roundw
          case rel => exact ⟨k + 1, by omega, by go_num, by rw [HN2.out]; exact HR6.out, HB6.out⟩
          case measure => simp [intOf]; omega
    · have HT := Lib.hid (List.take_of_length_le (show X.length ≤ k by omega))
      rw [HT.out] at HR
      go_wp2
      go_ret
      exact ⟨_, rfl, HR.out, hbel⟩

end Go.Proofs.Ytiomelogggilgaa
end

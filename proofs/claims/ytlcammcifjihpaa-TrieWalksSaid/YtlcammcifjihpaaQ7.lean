/- Parts of the proof, merged: U5, U6, U7, K6, K7. -/
import Derived.Test.YtlcammcifjihpaaQ6
import Derived.Test.YtlcammcifjihpaaQ4

section
/- Walk: trie.New. -/
namespace Go.Proofs.Ytlcammcifjihpaa
open Go.RowKit Go.Sort

/-- What trie.New leaves. -/
def NewPost (w : World) (n : Int) (X : List RL.R) (cs : List Int) (e : Ending) (w' : World) : Prop :=
  (newErr n cs ≠ 0 → e = .returned (.tuple #[.agg #[.slice none 0 0], .int .i64 (newErr n cs)])) ∧ (newErr n cs = 0 → ∃ LA C, e = .returned (.tuple #[.agg #[.slice LA cs.length C], .int .i64 0]) ∧ TrM w'.heap.size w' LA cs.length (vsF cs.length (RL.ofF (X.map (projF · cs)))) (fsF cs.length (RL.ofF (X.map (projF · cs))))) ∧ Below w.heap.size w w'
theorem NewPost.bad {w : World} {n : Int} {X : List RL.R} {cs : List Int} {e : Ending} {w' : World} {q : Int} (hq : newErr n cs = q) (hne : q ≠ 0) (he : e = .returned (.tuple #[.agg #[.slice none 0 0], .int .i64 q])) (hb : Below w.heap.size w w') : NewPost w n X cs e w' :=
  ⟨fun _ => by rw [hq]; exact he, fun h0 => absurd (hq.symm.trans h0) hne, hb⟩

set_option maxHeartbeats 8000000 in
set_option maxRecDepth 100000 in
theorem trNew_any (n : Int) (RA CA : Option Addr) (RC CC : Nat) (X : List RL.R) (cs : List Int) (w : World) (hX : SlRs w.heap.size w RA X) (hcs : SlI .i64 w.heap.size w CA cs) (hXo : RsOk X) (hXl : X.length ≤ 60000) (hcl : cs.length ≤ 32) (hcc : cs.length ≤ CC) (_hcm : CC ≤ 9223372036854775807) (hlen : ∀ x ∈ X, (x.length : Int) = n) :
    Calls Try.prog 25 #[.agg #[.int .i64 n, .slice RA X.length RC], .slice CA cs.length CC] w (NewPost w n X cs) := by
  have HX := Lib.hid hX
  have HCS := Lib.hid hcs
  have HXO := Lib.hid hXo
  have HLEN := Lib.hid hlen
  have hmk := makeLevels cs.length (by omega)
  have HMK := Lib.hid hmk
  have HAR := Lib.hid (fun W => rlArity_any n RA X.length RC W)
  clear hX hcs hXo hlen hmk
  go_enter Try.func25, Try.ntmps25
  go_wp2
  have HB0 := Lib.hid (((Ext.refl w).alloc (.cells #[.int .i64 n, .slice RA X.length RC] 54)).alloc (.cells #[.slice none 0 0] 31))
  have HR0 := Lib.hid ((Row.new w 54 [.int .i64 n, .slice RA X.length RC]).alloc (.cells #[.slice none 0 0] 31))
  have HT0 := Lib.hid (Row.new (w.alloc (.cells #[.int .i64 n, .slice RA X.length RC] 54)) 31 [.slice none 0 0])
  generalize hW0 : (w.alloc (.cells #[.int .i64 n, .slice RA X.length RC] 54)).alloc (.cells #[.slice none 0 0] 31) = W0 at *
  have hz0 : W0.heap.size = w.heap.size + 2 := by rw [← hW0]; simp
  simp only [World.size_alloc] at HT0
  clear hW0
  have HZ0 := Lib.hid hz0
  have hz1 : w.heap.size < W0.heap.size := by omega
  have hz2 : w.heap.size + 1 < W0.heap.size := by omega
  clear hz0
  have HCT : Hid (∀ (k : Nat) (c : Int) (W : World), k ≤ cs.length → Ext w W → Calls Try.prog 40 #[.slice CA k CC, .int .i64 c] W fun e w' => e = .returned (.bool (decide (c ∈ cs.take k))) ∧ W = w') := fun k c W hk hx => by
    have h := slContains_any CA CC (cs.take k) c W (((show SlI .i64 w.heap.size w CA (cs.take k) from fun hn => by
      obtain ⟨b, o, e, hb, hc⟩ := HCS.out (by intro h0; apply hn; rw [List.map_eq_nil_iff] at h0; rw [h0]; simp)
      refine ⟨b, o, e, hb, fun i u hu => hc i u ?_⟩
      rw [List.map_take, List.getElem?_take] at hu
      split at hu
      · exact hu
      · cases hu).ext (Nat.le_refl _) hx).more hx.size) (by simp; omega)
    rw [List.length_take, Nat.min_eq_left hk] at h
    exact h
  go_loopw [17] (fun m wr => ∃ k : Nat, k ≤ cs.length ∧ m = .int .i64 k ∧ Ext W0 wr ∧ (∀ j, j < k → colErr n cs j = 0)) (fun m _ => cs.length - (intOf m).toNat)
  case atStart => exact ⟨0, Nat.zero_le _, rfl, Ext.refl _, fun j hj => absurd hj (by omega)⟩
  case round =>
    obtain ⟨k, hka, rfl, hext, hall⟩ := hrel
    have HE := Lib.hid hext
    have HALL := Lib.hid hall
    have hzz := hext.size
    have hr1 := (HT0.out.up hext.below)
    have hr2 := (HR0.out.up hext.below)
    have p0 : wr.cell? ⟨w.heap.size, 0, none⟩ = some (.int .i64 n) := hr2.cell 0
    have p1 : wr.cell? ⟨w.heap.size, 1, none⟩ = some (.slice RA X.length RC) := hr2.cell 1
    have HR1 := Lib.hid hr1
    have f0 := hr1.frozen 0
    have p4 : wr.cell? ⟨w.heap.size + 1, 0, none⟩ = some (.slice none 0 0) := hr1.cell 0
    have HXX := Lib.hid (HB0.out.trans hext)
    clear hall hext hr1 hr2
    by_cases h1 : k < cs.length
    · obtain ⟨b, o, hA, hb, q1⟩ := slI_at HCS.out h1
      subst hA
      have q1 := (HXX.out.cell hb).trans q1
      have hbw : b < wr.heap.size := by have := HXX.out.size; omega
      have HC : Hid (colErr n cs k = if cs[k] < 0 ∨ n ≤ cs[k] then 3 else if cs[k] ∈ cs.take k then 8 else 0) := by
        show _ = _
        unfold colErr
        rw [List.getD_eq_getElem?_getD, List.getElem?_eq_getElem h1]
        rfl
      generalize cs[k] = c at *
      have hw1 : IntKind.i64.wrap ((k : Int) + 1) = (k : Int) + 1 := IntWalk.i64_in _ (by omega)
      by_cases g1 : c < 0
      · have HE1 := Lib.hid (newErr_at h1 HALL.out (by rw [HC.out, if_pos (.inl g1)]; omega))
        rw [HC.out, if_pos (.inl g1)] at HE1
        have z0 := (HR1.out.set 0 (.slice none 0 0)).cell 0
        simp only [List.set_cons_zero, List.getElem?_cons_zero] at z0
        have g1' : decide (c < 0) = true := by simpa using g1
        clear HC
        go_wp2
        exact bodyPost_ret (v := .tuple #[.agg #[.slice none 0 0], .int .i64 3]) (by simp [results, Try.results25, go_sem, z0]) rfl (NewPost.bad HE1.out (by omega) rfl (HXX.out.below.setCell (by simp) _))
      · by_cases g2 : n ≤ c
        · have HE1 := Lib.hid (newErr_at h1 HALL.out (by rw [HC.out, if_pos (.inr g2)]; omega))
          rw [HC.out, if_pos (.inr g2)] at HE1
          have g1' : decide (c < 0) = false := by simpa using g1
          have g2' : decide (n ≤ c) = true := by simpa using g2
          clear HC
          go_wp2_with fail
          refine (HAR.out _).mono ?_
          rintro e w1 ⟨rfl, hx⟩
          have hr3 := HR1.out.up hx.below
          have p4' : w1.cell? ⟨w.heap.size + 1, 0, none⟩ = some (.slice none 0 0) := hr3.cell 0
          have f0' := hr3.frozen 0
          have z0 := (hr3.set 0 (.slice none 0 0)).cell 0
          simp only [List.set_cons_zero, List.getElem?_cons_zero] at z0
          have HX1 := Lib.hid (HXX.out.trans hx)
          clear hr3 hx
          go_wp2
          exact bodyPost_ret (v := .tuple #[.agg #[.slice none 0 0], .int .i64 3]) (by simp [results, Try.results25, go_sem, z0]) rfl (NewPost.bad HE1.out (by omega) rfl (HX1.out.below.setCell (by simp) _))
        · have g1' : decide (c < 0) = false := by simpa using g1
          have g2' : decide (n ≤ c) = false := by simpa using g2
          have hkc : k ≤ CC := by omega
          have HC2 := Lib.hid (HC.out.trans (if_neg (by omega)))
          clear HC
          go_wp2_with fail
          refine (HAR.out _).mono ?_
          rintro e w1 ⟨rfl, hx⟩
          have hr3 := HR1.out.up hx.below
          have p4' : w1.cell? ⟨w.heap.size + 1, 0, none⟩ = some (.slice none 0 0) := hr3.cell 0
          have f0' := hr3.frozen 0
          have HR3 := Lib.hid hr3
          have HX1 := Lib.hid (HXX.out.trans hx)
          have HE3 := Lib.hid (HE.out.trans hx)
          clear hr3 hx p4 f0 p0 p1 q1
          go_wp2_with fail
          refine (HCT.out k c w1 (by omega) HX1.out).mono ?_
          rintro e w2 ⟨rfl, hw⟩
          obtain rfl := hw.symm
          clear hw
          by_cases g3 : c ∈ cs.take k
          · have HE1 := Lib.hid (newErr_at h1 HALL.out (by rw [HC2.out, if_pos g3]; omega))
            rw [HC2.out, if_pos g3] at HE1
            have g3' : decide (c ∈ cs.take k) = true := by simpa using g3
            have z0 := (HR3.out.set 0 (.slice none 0 0)).cell 0
            simp only [List.set_cons_zero, List.getElem?_cons_zero] at z0
            clear HC2
            generalize decide (c ∈ cs.take k) = q3 at *
            go_wp2
            exact bodyPost_ret (v := .tuple #[.agg #[.slice none 0 0], .int .i64 8]) (by simp [results, Try.results25, go_sem, z0]) rfl (NewPost.bad HE1.out (by omega) rfl (HX1.out.below.setCell (by simp) _))
          · have HC3 := Lib.hid (HC2.out.trans (if_neg g3))
            have g3' : decide (c ∈ cs.take k) = false := by simpa using g3
            generalize decide (c ∈ cs.take k) = q3 at *
            clear HC2
            go_wp2
            go_roundw
            case rel => exact ⟨k + 1, by omega, by go_num, HE3.out, fun j hj => by
              rcases Nat.lt_or_ge j k with h | h
              · exact HALL.out j h
              · obtain rfl : j = k := by omega
                exact HC3.out⟩
            case measure => simp [intOf]; omega
    · obtain rfl : k = cs.length := by omega
      go_wp2_with fail
      have hk0 := cols_of_zero HALL.out
      have HQ0 := Lib.hid (newErr_zero HALL.out)
      refine (rlProject_any n RA CA RC CC X cs wr ((HX.out.ext (Nat.le_refl _) HXX.out).more HXX.out.size) ((HCS.out.ext (Nat.le_refl _) HXX.out).more HXX.out.size) HXO.out hXl hcl HLEN.out).mono ?_
      rintro e w1 ⟨-, h2, hb⟩
      obtain ⟨v, rfl, PA, PC, rfl, hp1, hp2, hfr⟩ := h2 hk0
      have HSS := Lib.hid (RL.SS.of (X.map (projF · cs)))
      have HPO : Hid (RsOk (RL.ofF (X.map (projF · cs)))) := (HXO.out.proj hcl HLEN.out hk0).of_mem (fun y hy => (RL.mem_ofF _ _).1 hy)
      have HPD : Hid (∀ r ∈ RL.ofF (X.map (projF · cs)), r.length = cs.length) := fun r hr => by
        obtain ⟨x, _, rfl⟩ := List.mem_map.1 ((RL.mem_ofF _ _).1 hr)
        exact projF_length x cs
      have hPl : (RL.ofF (X.map (projF · cs))).length ≤ 60000 := by have := RL.ofF_length_le (X.map (projF · cs)); rw [List.length_map] at this; omega
      have HNP : Hid (∀ e w' LA C, e = .returned (.tuple #[.agg #[.slice LA cs.length C], .int .i64 0]) → TrM w'.heap.size w' LA cs.length (vsF cs.length (RL.ofF (X.map (projF · cs)))) (fsF cs.length (RL.ofF (X.map (projF · cs)))) → Below w.heap.size w w' → NewPost w n X cs e w') := fun e w' LA C h1 h2 h3 =>
        ⟨fun h => absurd HQ0.out h, fun _ => ⟨LA, C, h1, h2⟩, h3⟩
      generalize hP : RL.ofF (X.map (projF · cs)) = P at *
      have HSP := Lib.hid hfr.sl
      have HB1 := Lib.hid (Below.then HXX.out.below hb HXX.out.size)
      have HTB := Lib.hid (HR1.out.up hb)
      clear hP h2 hb hfr HQ0 hk0 HALL p0 p1 p4 f0 HX HXO HLEN HAR HCT HCS
      have hmk := HMK.out
      go_wp2_with fail
      obtain ⟨wo, hwo⟩ : ∃ wo, wo = wr := ⟨_, rfl⟩
      subst hwo
      obtain ⟨W4, hW4⟩ : ∃ W4, W4 = (((w1.alloc (.cells #[.int .i64 cs.length, .slice PA P.length PC] 54)).alloc (.cells (zerosA (.slice none 0 0) (cs.length * 2)) 74)).alloc (.cells #[.slice (some ⟨w1.heap.size + 1, 0, none⟩) cs.length cs.length] 31)) := ⟨_, rfl⟩
      have hx4 : Ext w1 W4 := by rw [hW4]; exact (((Ext.refl w1).alloc _).alloc _).alloc _
      have hz4 : W4.heap.size = w1.heap.size + 3 := by rw [hW4]; simp
      have hl4 : Row W4 (w1.heap.size + 1) 74 (List.replicate (cs.length * 2) (.slice none 0 0)) := by
        rw [hW4]
        have h := (Row.zeros (w1.alloc (.cells #[.int .i64 cs.length, .slice PA P.length PC] 54)) 74 (.slice none 0 0) (cs.length * 2)).alloc (.cells #[.slice (some ⟨w1.heap.size + 1, 0, none⟩) cs.length cs.length] 31)
        simp only [World.size_alloc] at h
        exact h
      have ht4 : Row W4 (w1.heap.size + 1 + 1) 31 [.slice (some ⟨w1.heap.size + 1, 0, none⟩) cs.length cs.length] := by
        rw [hW4]
        have h := Row.new ((w1.alloc (.cells #[.int .i64 cs.length, .slice PA P.length PC] 54)).alloc (.cells (zerosA (.slice none 0 0) (cs.length * 2)) 74)) 31 [.slice (some ⟨w1.heap.size + 1, 0, none⟩) cs.length cs.length]
        simp only [World.size_alloc] at h
        exact h
      have HSP4 := Lib.hid (HSP.out.up hx4)
      have HTB4 := Lib.hid (HTB.out.up hx4.below)
      have hbb := HB1.out.size
      have hbt := HTB.out.lt
      have HB4 := Lib.hid (Below.then HB1.out hx4.below hbb)
      rw [← hW4]
      clear hW4 hx4 HSP HTB HB1 hmk HMK
      refine (rlRows_any (cs.length : Nat) PA PC P W4 HSP4.out HPO.out (by omega)).mono ?_
      rintro e w5 ⟨g, rfl, hmade, hb5⟩
      have hmd : ∀ k (hk : k < P.length), ∃ A' C', w5.cell? ⟨g, k, none⟩ = some (.slice A' P[k].length C') ∧ HR (fun b => b ≠ w1.heap.size + 1) w5.heap.size w5 (.slice A' P[k].length C') P[k] := fun k hk => by
        obtain ⟨hs, m1, m2, m3, m4⟩ := hmade
        obtain ⟨A', C', a1, a2, a3, a4, a5⟩ := m4 k hk hk
        refine ⟨A', C', by rw [m1.cell]; exact a1, A', C', rfl, a2, a3, a4, fun hy ad e => ?_⟩
        have := (a5 hy ad e).2.1
        show ad.block ≠ _
        omega
      have hgl : g < w5.heap.size := hmade.lt
      have hgB : W4.heap.size ≤ g := by obtain ⟨hs, m1, m2, m3, m4⟩ := hmade; exact m3
      have hl5 := hl4.up hb5
      have ht5 := ht4.up hb5
      have HBL0 : Hid (BldM w5.heap.size (fun _ => True) w5 (w1.heap.size + 1) cs.length (vsB cs.length P 0) (fsB cs.length P 0)) := by
        show OwnAll _ _ _ _ _ _ _
        rw [vsB_zero, fsB_zero]
        exact BldM.start hl5 hl5.lt (Nat.le_refl _)
      have HT5 := Lib.hid ht5
      have HTB5 := Lib.hid (HTB4.out.up hb5)
      have HB5 := Lib.hid (Below.then HB4.out hb5 (by omega))
      have HMD := Lib.hid hmd
      have hz5 := hb5.size
      clear hmade hb5 hl4 ht4 hl5 ht5 hmd HB4 HTB4 HSP4
      generalize hlbv : w1.heap.size + 1 = lb at *
      have htg : lb + 1 < w5.heap.size := by omega
      have hgne : lb < g := by omega
      have hz4' : lb < w5.heap.size := by omega
      have hwb : w.heap.size + 1 < lb := by omega
      clear hlbv hz4
      go_wp2
      go_loopw [11, 55] (fun a m wr => ∃ k : Nat, k ≤ P.length ∧ m = .int .i64 k ∧ HR (fun b => b ≠ lb) w5.heap.size w5 a (lastOf P k) ∧ BldM w5.heap.size (fun _ => True) wr lb cs.length (vsB cs.length P k) (fsB cs.length P k) ∧ KeepX w5.heap.size lb w5 wr) (fun _ m _ => P.length - (intOf m).toNat)
      case atStart =>
        refine ⟨0, Nat.zero_le _, rfl, ⟨none, 0, rfl, Nat.zero_le _, by omega, SlR.nil, fun h => absurd rfl h⟩, HBL0.out, KeepX.refl _ _ _⟩
      case round =>
        obtain ⟨k, hka, rfl, hlast, hbld, hkeep⟩ := hrel
        have hzz := hkeep.2.2.2.1
        have HLAST := Lib.hid hlast
        have HBLD := Lib.hid hbld
        have HKEEP := Lib.hid hkeep
        have t0 : wr.cell? ⟨lb + 1, 0, none⟩ = some (.slice (some ⟨lb, 0, none⟩) cs.length cs.length) := (hkeep.cell (p := ⟨lb + 1, 0, none⟩) htg (by show lb + 1 ≠ lb; omega)).trans (HT5.out.cell 0)
        obtain ⟨LA, LC, rfl, hl1, hl2, hl3, hl4⟩ := hlast
        clear hbld hkeep HBL0
        by_cases h1 : k < P.length
        · obtain ⟨A', C', d1, hhr⟩ := HMD.out k h1
          have d1 := (HKEEP.out.cell (p := ⟨g, k, none⟩) hgl (by show g ≠ lb; omega)).trans d1
          have HHR := Lib.hid hhr
          obtain ⟨A2, C2, e2, b1, b2, b3, b4⟩ := hhr
          injection e2 with e2 _ e3
          subst e2 e3
          have hw1 : IntKind.i64.wrap ((k : Int) + 1) = (k : Int) + 1 := IntWalk.i64_in _ (by omega)
          have HPK : Hid (P[k].length = cs.length) := HPD.out _ (List.getElem_mem h1)
          have hpk1 : P[k].length ≤ cs.length := Nat.le_of_eq HPK.out
          have hpk2 : cs.length ≤ P[k].length := Nat.le_of_eq HPK.out.symm
          have hll := lastOf_len HPD.out k
          go_wp2_with fail
          have HSH : Hid (∀ W, Ext wr W → Calls Try.prog 44 #[.slice LA (lastOf P k).length LC, .slice A' P[k].length C'] W fun e w' => e = .returned (.int .i64 (RL.sharedN (lastOf P k) P[k])) ∧ Ext W w') := fun W hW => by
            have hk1 : ∀ p : Addr, p.block < w5.heap.size → p.block ≠ lb → W.cell? p = w5.cell? p := fun p hp hn => (hW.below.cell (by omega)).trans (HKEEP.out.cell hp hn)
            refine trShared_any LA A' LC C' (lastOf P k) P[k] W ((SlR.keepP (P := fun b => b ≠ lb) hl3 hl4 hk1).more (by have := hW.size; omega)) ((SlR.keepP (P := fun b => b ≠ lb) b3 b4 hk1).more (by have := hW.size; omega)) (by omega) (by omega)
          refine wp_region_held_drew (S := (fun w' => w'.cell? ⟨lb + 1, 0, none⟩ = some (.slice (some ⟨lb, 0, none⟩) cs.length cs.length))) (by kernel_rfl) t0 (fun hHeld => ?_)
          refine takeOp (i := 0) (v := ?_) (some 59) rfl rfl (by kernel_rfl) (by kernel_rfl) (by kernel_rfl) (fun _ _ _ h => h) (Or.inl ⟨by rfl, ?_⟩) (by assumption) ?_
          rotate_left 1
          · (intro w0 hSw; (try dsimp only at hSw); go_simp; try (with_reducible rfl))
          try simp only [Act.put]
          try simp only [List.setIfInBounds_toArray]
          try simp only [List.set_cons_succ]
          try simp only [List.set_cons_zero]
          refine takeOp (i := 1) (v := ?_) (some 60) rfl rfl (by kernel_rfl) (by kernel_rfl) (by kernel_rfl) (fun _ _ _ h => h) (Or.inl ⟨by rfl, ?_⟩) (by assumption) ?_
          rotate_left 1
          · (intro w0 hSw; (try dsimp only at hSw); go_simp; try (with_reducible rfl))
          try simp only [Act.put]
          try simp only [List.setIfInBounds_toArray]
          try simp only [List.set_cons_succ]
          try simp only [List.set_cons_zero]
          refine takeOp (i := 2) (v := ?_) (some 61) rfl rfl (by kernel_rfl) (by kernel_rfl) (by kernel_rfl) (fun _ _ _ h => h) (Or.inl ⟨by rfl, ?_⟩) (by assumption) ?_
          rotate_left 1
          · (intro w0 hSw; (try dsimp only at hSw); go_simp; try (with_reducible rfl))
          try simp only [Act.put]
          try simp only [List.setIfInBounds_toArray]
          try simp only [List.set_cons_succ]
          try simp only [List.set_cons_zero]
          refine takeOp (i := 3) (v := ?_) (some 62) rfl rfl (by kernel_rfl) (by kernel_rfl) (by kernel_rfl) (fun _ _ _ h => h) (Or.inl ⟨by rfl, ?_⟩) (by assumption) ?_
          rotate_left 1
          · (intro w0 hSw; (try dsimp only at hSw); go_simp; try (with_reducible rfl))
          try simp only [Act.put]
          try simp only [List.setIfInBounds_toArray]
          try simp only [List.set_cons_succ]
          try simp only [List.set_cons_zero]
          refine wpAnyH_ready (rs := [4]) (by kernel_rfl) (by simp) ?_
          refine AllReadyH.cons rfl (fun K hK => ?_) AllReadyH.nil
          go_simp
          refine (HSH.out _ (Ext.refl wr).drew).mono ?_
          rintro e w6 ⟨rfl, hx0⟩
          have hx : Ext wr w6 := (Ext.refl wr).drew.trans hx0
          have KEEP : w6.cell? ⟨lb + 1, 0, none⟩ = some (.slice (some ⟨lb, 0, none⟩) cs.length cs.length) := (hx.cell (by omega)).trans t0
          have HX6 := Lib.hid hx
          clear hx hx0
          go_wp2_with fail
          refine hK.out _ _ KEEP (fun hHeld => ?_)
          clear hK K
          try simp only [Act.put]
          try simp only [List.setIfInBounds_toArray]
          try simp only [List.set_cons_succ]
          try simp only [List.set_cons_zero]
          refine wpAnyH_ready (rs := [5]) (by kernel_rfl) (by simp) ?_
          refine AllReadyH.cons rfl (fun K hK => ?_) AllReadyH.nil
          go_simp
          have hsle := RL.sharedN_le (lastOf P k) P[k]
          refine (trAdd_any w5.heap.size lb cs.length cs.length (vsB cs.length P k) (fsB cs.length P k) A' C' (RL.sharedN (lastOf P k) P[k]) P[k] w6 (OwnAll.up HBLD.out HX6.out.below) (HHR.out.keep (fun p hp hn => (HX6.out.below.cell (by omega)).trans (HKEEP.out.cell hp hn))) HPK.out (by omega) hcl (fun l => by have := vsB_len cs.length P k l; omega) (fun l => by have := fsB_len cs.length P k l; omega)).mono ?_
          rintro e w7 ⟨rfl, hbld7, hkeep7⟩
          have KEEP2 : w7.cell? ⟨lb + 1, 0, none⟩ = some (.slice (some ⟨lb, 0, none⟩) cs.length cs.length) := (hkeep7.cell (p := ⟨lb + 1, 0, none⟩) htg (by show lb + 1 ≠ lb; omega)).trans KEEP
          have HBLD7 := Lib.hid hbld7
          have HKEEP7 := Lib.hid hkeep7
          clear hbld7 hkeep7
          go_wp2_with fail
          refine hK.out _ _ KEEP2 (fun hHeld => ?_)
          clear hK K
          try simp only [Act.put]
          try simp only [List.setIfInBounds_toArray]
          try simp only [List.set_cons_succ]
          try simp only [List.set_cons_zero]
          refine wpAnyH_done (by kernel_rfl) ?_ _
          go_wp2
          go_roundw
          case rel =>
            refine ⟨k + 1, by omega, by go_num, ?_, ?_, HKEEP.out.trans ((KeepX.below HX6.out.below hzz).trans HKEEP7.out)⟩
            · rw [take_last h1]; exact HHR.out
            · have h := HBLD7.out
              rw [vsB_step HSS.out HPD.out h1] at h
              exact h.congr (fun _ _ => rfl) (fsB_step HSS.out HPD.out h1)
          case measure => simp [intOf]; omega
        · obtain rfl : k = P.length := by omega
          have HBLD1 : Hid (BldM w5.heap.size (fun _ => True) wr lb cs.length (vsF cs.length P) (fsH cs.length P 0)) := by
            have h := HBLD.out
            rw [vsB_all] at h
            exact h
          clear HBLD HLAST HMD hl1 hl2 hl3 hl4
          obtain ⟨wq, hwq⟩ : ∃ wq, wq = wr := ⟨_, rfl⟩
          subst hwq
          go_wp2
          have HNODES : Hid (∀ l, (RL.nodes cs.length P l).length ≤ P.length) := RL.nodes_len cs.length P
          have HFB : Hid (∀ l, (fsB cs.length P P.length l).length ≤ P.length) := fsB_len cs.length P P.length
          clear t0
          go_loopw [70] (fun m wr => ∃ k : Nat, k ≤ cs.length ∧ m = .int .i64 k ∧ BldM w5.heap.size (fun _ => True) wr lb cs.length (vsF cs.length P) (fsH cs.length P k) ∧ KeepX w5.heap.size lb w5 wr) (fun m _ => cs.length - (intOf m).toNat)
          case atStart => exact ⟨0, Nat.zero_le _, rfl, HBLD1.out, HKEEP.out⟩
          case round =>
            obtain ⟨k, hka2, rfl, hbld, hkeep⟩ := hrel
            have hzz2 := hkeep.2.2.2.1
            have HBLD := Lib.hid hbld
            have HK2 := Lib.hid hkeep
            have t0 : wr.cell? ⟨lb + 1, 0, none⟩ = some (.slice (some ⟨lb, 0, none⟩) cs.length cs.length) := (hkeep.cell (p := ⟨lb + 1, 0, none⟩) htg (by show lb + 1 ≠ lb; omega)).trans (HT5.out.cell 0)
            have p4 : wr.cell? ⟨w.heap.size + 1, 0, none⟩ = some (.slice none 0 0) := (hkeep.cell (p := ⟨w.heap.size + 1, 0, none⟩) (by show w.heap.size + 1 < _; omega) (by show w.heap.size + 1 ≠ lb; omega)).trans (HTB5.out.cell 0)
            clear hbld hkeep HBLD1 HKEEP
            by_cases h1 : k < cs.length
            rotate_left
            · have hkc : k = cs.length := by omega
              have HTR : Hid (∀ W, W = wr.setCell ⟨w.heap.size + 1, 0, none⟩ (.slice (some ⟨lb, 0, none⟩) cs.length cs.length) → TrM W.heap.size W (some ⟨lb, 0, none⟩) cs.length (vsF cs.length P) (fsF cs.length P)) := fun W hW => by
                have h : BldM w5.heap.size (fun _ => True) wr lb cs.length (vsF cs.length P) (fsF cs.length P) := HBLD.out.congr (fun _ _ => rfl) (fun l hl => by unfold fsH; rw [if_pos (by omega)])
                have hs : W.heap.size = wr.heap.size := by rw [hW]; simp
                intro l hl
                obtain ⟨hs0, r1, r2, r3, r3', r4, r5, r6⟩ := h
                have h2 : BldM w5.heap.size (fun _ => True) W lb cs.length (vsF cs.length P) (fsF cs.length P) := by
                  rw [hW]
                  refine ⟨hs0, r1.far (by show lb ≠ w.heap.size + 1; omega) _, r2, r3, by simpa using r3', fun i u hu => own_far (r4 i u hu) (fun e => by have := own_base (r4 i u hu) e; simp only at this; omega) _, r5, r6⟩
                exact BldM.tr h2 l hl
              have hrr : Row wr (w.heap.size + 1) 31 [.slice none 0 0] := (HK2.out.2.2.2.2 (w.heap.size + 1) (by omega) (by omega)).trans HTB5.out
              have f0 := hrr.frozen 0
              have z0 := (hrr.set 0 (.slice (some ⟨lb, 0, none⟩) cs.length cs.length)).cell 0
              simp only [List.set_cons_zero, List.getElem?_cons_zero] at z0
              have HBW : Hid (Below w.heap.size w wr) := Below.then HB5.out (⟨HK2.out.1, HK2.out.2.1, HK2.out.2.2.1, HK2.out.2.2.2.1, fun b hb => HK2.out.2.2.2.2 b (by omega) (by omega)⟩ : Below w.heap.size w5 wr) (Nat.le_refl _)
              have hge : ¬ k < cs.length := h1
              clear hrr
              go_wp2
              exact bodyPost_ret (v := .tuple #[.agg #[.slice (some ⟨lb, 0, none⟩) cs.length cs.length], .int .i64 0]) (by simp [results, Try.results25, go_sem, z0]) rfl (HNP.out _ _ _ _ rfl (HTR.out _ rfl) (HBW.out.setCell (by simp) _))
            obtain ⟨f, cf, of, qf, ff⟩ := OwnAll.at_ HBLD.out (show k * 2 + 1 < cs.length * 2 by omega)
            rw [spF_f, fsH_at] at of
            have HSZ : Hid (∀ W, Ext wr W → Calls Try.prog 32 #[.agg #[.slice (some ⟨lb, 0, none⟩) cs.length cs.length], .int .i64 ((k : Int) + 1)] W fun e w' => e = .returned (.int .i64 (RL.nodes cs.length P (k + 1)).length) ∧ Ext W w') := fun W hW => by
              have h := trSize_any wr.heap.size (some ⟨lb, 0, none⟩) cs.length cs.length (vsF cs.length P) (fsH cs.length P k) (k + 1) W ((BldM.tr HBLD.out).below hW.below (Nat.le_refl _)) hW.size (by omega) (by omega)
              have e1 : sizeF cs.length (vsF cs.length P) (k + 1) = (RL.nodes cs.length P (k + 1)).length := by
                unfold sizeF
                rw [vsF_len]
                split
                · rfl
                · rw [RL.nodes_out (by omega)]; rfl
              rw [e1] at h
              exact h
            have hlw3 : lb < wr.heap.size := by omega
            have htw3 : lb + 1 < wr.heap.size := by omega
            have HOF := Lib.hid of
            have HQF : Hid (∀ j, f.ownBlock = some j → w5.heap.size ≤ j) := fun j hj => own_base of hj
            have hfk := HFB.out k
            have hw1 : IntKind.i64.wrap ((k : Int) + 1) = (k : Int) + 1 := IntWalk.i64_in _ (by omega)
            obtain ⟨q, hq⟩ : ∃ q, q = (RL.nodes cs.length P (k + 1)).length := ⟨_, rfl⟩
            have HN : Hid ((RL.nodes cs.length P (k + 1)).length = q) := hq.symm
            rw [← hq] at HSZ
            clear of qf hq p4
            go_wp2
            refine regionZ (S := (fun w' => w'.cell? ⟨lb + 1, 0, none⟩ = some (.slice (some ⟨lb, 0, none⟩) cs.length cs.length) ∧ w'.cell? ⟨lb, k * 2 + 1, none⟩ = some f)) 17 (by kernel_rfl) ⟨t0, cf⟩ (fun hHeld => ?_)
            refine takeZ (i := 0) (v := ?_) (some 73) rfl rfl (by kernel_rfl) (by decide) (by kernel_rfl) (by kernel_rfl) (by kernel_rfl) (by kernel_rfl) (fun _ _ _ h => h) (Or.inl ⟨by rfl, ?_⟩) (by assumption) ?_
            rotate_left 1
            · (intro w0 hSw; (try dsimp only at hSw); go_simp; try (with_reducible rfl))
            try simp only [Act.put]
            try simp only [List.setIfInBounds_toArray]
            try simp only [List.set_cons_succ]
            try simp only [List.set_cons_zero]
            refine takeZ (i := 1) (v := ?_) (some 74) rfl rfl (by kernel_rfl) (by decide) (by kernel_rfl) (by kernel_rfl) (by kernel_rfl) (by kernel_rfl) (fun _ _ _ h => h) (Or.inl ⟨by rfl, ?_⟩) (by assumption) ?_
            rotate_left 1
            · (intro w0 hSw; (try dsimp only at hSw); go_simp; try (with_reducible rfl))
            try simp only [Act.put]
            try simp only [List.setIfInBounds_toArray]
            try simp only [List.set_cons_succ]
            try simp only [List.set_cons_zero]
            refine takeZ (i := 2) (v := ?_) (some 75) rfl rfl (by kernel_rfl) (by decide) (by kernel_rfl) (by kernel_rfl) (by kernel_rfl) (by kernel_rfl) (fun _ _ _ h => h) (Or.inl ⟨by rfl, ?_⟩) (by assumption) ?_
            rotate_left 1
            · (intro w0 hSw; (try dsimp only at hSw); go_simp; try (with_reducible rfl))
            try simp only [Act.put]
            try simp only [List.setIfInBounds_toArray]
            try simp only [List.set_cons_succ]
            try simp only [List.set_cons_zero]
            refine takeZ (i := 3) (v := ?_) (some 76) rfl rfl (by kernel_rfl) (by decide) (by kernel_rfl) (by kernel_rfl) (by kernel_rfl) (by kernel_rfl) (fun _ _ _ h => h) (Or.inl ⟨by rfl, ?_⟩) (by assumption) ?_
            rotate_left 1
            · (intro w0 hSw; (try dsimp only at hSw); go_simp; try (with_reducible rfl))
            try simp only [Act.put]
            try simp only [List.setIfInBounds_toArray]
            try simp only [List.set_cons_succ]
            try simp only [List.set_cons_zero]
            refine takeZ (i := 4) (v := ?_) (some 77) rfl rfl (by kernel_rfl) (by decide) (by kernel_rfl) (by kernel_rfl) (by kernel_rfl) (by kernel_rfl) (fun _ _ _ h => h) (Or.inl ⟨by rfl, ?_⟩) (by assumption) ?_
            rotate_left 1
            · (intro w0 hSw; (try dsimp only at hSw); go_simp; try (with_reducible rfl))
            try simp only [Act.put]
            try simp only [List.setIfInBounds_toArray]
            try simp only [List.set_cons_succ]
            try simp only [List.set_cons_zero]
            refine takeZ (i := 5) (v := ?_) (some 78) rfl rfl (by kernel_rfl) (by decide) (by kernel_rfl) (by kernel_rfl) (by kernel_rfl) (by kernel_rfl) (fun _ _ _ h => h) (Or.inl ⟨by rfl, ?_⟩) (by assumption) ?_
            rotate_left 1
            · (intro w0 hSw; (try dsimp only at hSw); go_simp; try (with_reducible rfl))
            try simp only [Act.put]
            try simp only [List.setIfInBounds_toArray]
            try simp only [List.set_cons_succ]
            try simp only [List.set_cons_zero]
            refine takeZ (i := 6) (v := ?_) (some 79) rfl rfl (by kernel_rfl) (by decide) (by kernel_rfl) (by kernel_rfl) (by kernel_rfl) (by kernel_rfl) (fun _ _ _ h => h) (Or.inl ⟨by rfl, ?_⟩) (by assumption) ?_
            rotate_left 1
            · (intro w0 hSw; (try dsimp only at hSw); go_simp; try (with_reducible rfl))
            try simp only [Act.put]
            try simp only [List.setIfInBounds_toArray]
            try simp only [List.set_cons_succ]
            try simp only [List.set_cons_zero]
            refine takeZ (i := 7) (v := ?_) (some 80) rfl rfl (by kernel_rfl) (by decide) (by kernel_rfl) (by kernel_rfl) (by kernel_rfl) (by kernel_rfl) (fun _ _ _ h => h) (Or.inl ⟨by rfl, ?_⟩) (by assumption) ?_
            rotate_left 1
            · (intro w0 hSw; (try dsimp only at hSw); go_simp; try (with_reducible rfl))
            try simp only [Act.put]
            try simp only [List.setIfInBounds_toArray]
            try simp only [List.set_cons_succ]
            try simp only [List.set_cons_zero]
            refine takeZ (i := 8) (v := ?_) (some 81) rfl rfl (by kernel_rfl) (by decide) (by kernel_rfl) (by kernel_rfl) (by kernel_rfl) (by kernel_rfl) (fun _ _ _ h => h) (Or.inl ⟨by rfl, ?_⟩) (by assumption) ?_
            rotate_left 1
            · (intro w0 hSw; (try dsimp only at hSw); go_simp; try (with_reducible rfl))
            try simp only [Act.put]
            try simp only [List.setIfInBounds_toArray]
            try simp only [List.set_cons_succ]
            try simp only [List.set_cons_zero]
            refine takeZ (i := 9) (v := ?_) (some 82) rfl rfl (by kernel_rfl) (by decide) (by kernel_rfl) (by kernel_rfl) (by kernel_rfl) (by kernel_rfl) (fun _ _ _ h => h) (Or.inl ⟨by rfl, ?_⟩) (by assumption) ?_
            rotate_left 1
            · (intro w0 hSw; (try dsimp only at hSw); go_simp; try (with_reducible rfl))
            try simp only [Act.put]
            try simp only [List.setIfInBounds_toArray]
            try simp only [List.set_cons_succ]
            try simp only [List.set_cons_zero]
            refine takeZ (i := 10) (v := ?_) (some 83) rfl rfl (by kernel_rfl) (by decide) (by kernel_rfl) (by kernel_rfl) (by kernel_rfl) (by kernel_rfl) (fun _ _ _ h => h) (Or.inl ⟨by rfl, ?_⟩) (by assumption) ?_
            rotate_left 1
            · (intro w0 hSw; (try dsimp only at hSw); go_simp; try (with_reducible rfl))
            try simp only [Act.put]
            try simp only [List.setIfInBounds_toArray]
            try simp only [List.set_cons_succ]
            try simp only [List.set_cons_zero]
            refine takeZ (i := 11) (v := ?_) (some 84) rfl rfl (by kernel_rfl) (by decide) (by kernel_rfl) (by kernel_rfl) (by kernel_rfl) (by kernel_rfl) (fun _ _ _ h => h) (Or.inl ⟨by rfl, ?_⟩) (by assumption) ?_
            rotate_left 1
            · (intro w0 hSw; (try dsimp only at hSw); go_simp; try (with_reducible rfl))
            try simp only [Act.put]
            try simp only [List.setIfInBounds_toArray]
            try simp only [List.set_cons_succ]
            try simp only [List.set_cons_zero]
            refine oneZ (i := 12) (by kernel_rfl) rfl (by decide) (fun K hK => ?_)
            go_simp
            refine (HSZ.out _ (Ext.refl wr).drew).mono ?_
            rintro e w4 ⟨rfl, hx0⟩
            have hx : Ext wr w4 := (Ext.refl wr).drew.trans hx0
            have KEEP : w4.cell? ⟨lb + 1, 0, none⟩ = some (.slice (some ⟨lb, 0, none⟩) cs.length cs.length) ∧ w4.cell? ⟨lb, k * 2 + 1, none⟩ = some f := ⟨(hx.cell htw3).trans t0, (hx.cell hlw3).trans cf⟩
            have HX4 := Lib.hid hx
            clear hx hx0
            go_wp2_with fail
            refine hK.out _ _ KEEP (fun hHeld => ?_)
            clear hK K
            try simp only [Act.put]
            try simp only [List.setIfInBounds_toArray]
            try simp only [List.set_cons_succ]
            try simp only [List.set_cons_zero]
            refine oneZ (i := 13) (by kernel_rfl) rfl (by decide) (fun K hK => ?_)
            go_simp
            have hxa : Ext wr (w4.alloc (.cells #[.int .i64 (q : Int)] 3)) := HX4.out.alloc _
            have KEEP1 := (⟨(hxa.cell htw3).trans t0, (hxa.cell hlw3).trans cf⟩ : _ ∧ _)
            have KEEP2K := Lib.hid KEEP1.2
            clear hxa
            refine hK.out _ _ KEEP1 (fun hHeld => ?_)
            clear hK K
            try simp only [Act.put]
            try simp only [List.setIfInBounds_toArray]
            try simp only [List.set_cons_succ]
            try simp only [List.set_cons_zero]
            refine oneZ (i := 14) (by kernel_rfl) rfl (by decide) (fun K hK => ?_)
            refine stepI (w := w4.alloc (.cells #[.int .i64 (q : Int)] 3)) rfl (.tmp 81) (.tmp 86) rfl w5.heap.size f (fsB cs.length P P.length k) (by simp [Act.eval]) (own_keep HOF.out (HX4.out.alloc _).below) w4.heap.size q (by simp [Act.eval]) (Row.new w4 3 [.int .i64 (q : Int)]) (by omega) (by have := HX4.out.size; simp; omega) ?_
            intro ng cap w2 hown2 hg2 hat2
            have hza := (HX4.out.alloc (.cells #[.int .i64 (q : Int)] 3)).size
            have KEEP2 : w2.cell? ⟨lb + 1, 0, none⟩ = some (.slice (some ⟨lb, 0, none⟩) cs.length cs.length) ∧ w2.cell? ⟨lb, k * 2 + 1, none⟩ = some f :=
              ⟨(grown_cell hg2 (p := ⟨lb + 1, 0, none⟩) (Nat.lt_of_lt_of_le htw3 hza) (fun e => by have := HQF.out _ e.symm; simp only at this; omega)).trans KEEP1.1, (grown_cell hg2 (p := ⟨lb, k * 2 + 1, none⟩) (Nat.lt_of_lt_of_le hlw3 hza) (fun e => by have := HQF.out _ e.symm; simp only at this; omega)).trans KEEP1.2⟩
            have hf2 : w2.frozen? ⟨lb, k * 2 + 1, none⟩ = false := by
              have h := OwnAll.up HBLD.out (HX4.out.alloc (.cells #[.int .i64 (q : Int)] 3)).below
              obtain ⟨hs, q1, -, -, -, -, -, -⟩ := h
              exact (q1.grown hg2 (fun e => by have := HQF.out _ e.symm; omega)).frozen _
            have HOWN2 := Lib.hid hown2
            have HG2 := Lib.hid hg2
            have HAT2 := Lib.hid hat2
            clear hown2 hg2 hat2 hza
            refine hK.out _ _ KEEP2 (fun hHeld => ?_)
            clear hK K
            try simp only [Act.put]
            try simp only [List.setIfInBounds_toArray]
            try simp only [List.set_cons_succ]
            try simp only [List.set_cons_zero]
            refine takeZ (i := 15) (v := ?_) (some 88) rfl rfl (by kernel_rfl) (by decide) (by kernel_rfl) (by kernel_rfl) (by kernel_rfl) (by kernel_rfl) (fun _ _ _ h => h) (Or.inl ⟨by rfl, ?_⟩) (by assumption) ?_
            rotate_left 1
            · (intro w0 hSw; (try dsimp only at hSw); go_simp; try (with_reducible rfl))
            try simp only [Act.put]
            try simp only [List.setIfInBounds_toArray]
            try simp only [List.set_cons_succ]
            try simp only [List.set_cons_zero]
            refine takeZ (i := 16) (v := ?_) (some 89) rfl rfl (by kernel_rfl) (by decide) (by kernel_rfl) (by kernel_rfl) (by kernel_rfl) (by kernel_rfl) (fun _ _ _ h => h) (Or.inl ⟨by rfl, ?_⟩) (by assumption) ?_
            rotate_left 1
            · (intro w0 hSw; (try dsimp only at hSw); go_simp; try (with_reducible rfl))
            try simp only [Act.put]
            try simp only [List.setIfInBounds_toArray]
            try simp only [List.set_cons_succ]
            try simp only [List.set_cons_zero]
            refine lastZ (by kernel_rfl) rfl (by kernel_rfl) (fun K hK => ?_)
            go_simp
            go_wp2_with fail
            refine hK.out _ _ ?_
            clear hK K
            try simp only [Act.put]
            try simp only [List.setIfInBounds_toArray]
            try simp only [List.set_cons_succ]
            try simp only [List.set_cons_zero]
            go_wp2
            go_roundw
            case rel =>
              have hx5 : Ext wr (w4.alloc (.cells #[.int .i64 (q : Int)] 3)) := HX4.out.alloc _
              refine ⟨k + 1, by omega, by go_num, ?_, ?_⟩
              · rw [fsH_step]
                refine OwnAll.put (OwnAll.up HBLD.out hx5.below) KEEP2K.out (spF_updf _ _ _ _) ?_ HG2.out (fun j hj => ?_) (fun _ _ => trivial)
                · rw [spF_f, upd_self, List.length_append, HN.out]
                  exact HOWN2.out
                · injection hj with hj
                  subst hj
                  rcases HAT2.out with h | h
                  · exact .inl h
                  · exact .inr (by rw [h]; exact Nat.le_refl _)
              · exact ((HK2.out.trans (KeepX.below hx5.below (by omega))).trans (KeepX.grown HG2.out (Nat.le_trans (by omega) hx5.size) (fun j hj => HQF.out j hj))).trans (KeepX.set w2 _ _)
            case measure => simp [intOf]; omega

end Go.Proofs.Ytlcammcifjihpaa
end

section
/- Plain and memory: the way of trie.Children along a prefix; copy of values. -/
namespace Go.Proofs.Ytlcammcifjihpaa
open Go.RowKit Go.Sort

theorem run_copy_rowN {P : Program} (w : World) (dT sT ty elem : TypeId) (size : Nat) (g o dLen dCap : Nat) (a : Addr) (sLen sCap : Nat) (cur : Array Value) (t : TypeId) (cs : List Value)
    (hu : P.underlying dT = some (.slice elem)) (hs : (P.info? elem).map (·.size) = some size)
    (hg : w.heap[g]? = some (.cells cur t (0, 0))) (hn : cs.length = Nat.min sLen dLen * size)
    (hsrc : ∀ j v, cs[j]? = some v → w.cell? (a.add j) = some v) (hfit : o + cs.length ≤ cur.size) (h1 : ∀ v ∈ cs, v.oneCell' = true) :
    (Builtin.copy_ #[dT, sT] ty #[.slice (some ⟨g, o, none⟩) dLen dCap, .slice (some a) sLen sCap]).run P w =
      .ok (goInt (Nat.min sLen dLen)) (w.setRow g (cur.toList.take o ++ cs ++ cur.toList.drop (o + cs.length)).toArray) := by
  have hl := run_loadCells_list (P := P) w a cs hsrc
  have hst := run_storeCells_at P g o t cs 0 cur w hg (by simpa using hfit) h1
  cases hq : P.info? elem with
  | none => simp [hq] at hs
  | some i =>
    have hi : i.size = size := by simpa [hq] using hs
    simp [Builtin.copy_, run_underlying hu, Builtin.lenOf, Builtin.firstCells, sizeOf, typeInfo, hq, hi, ← hn, hl, hst]

/-- copy of the values K onto a new block of just as many, at a step of a region that draws its order. -/
theorem stepCopyV {w : World} {ops : Array Oper} {o : Oper} {a : Act} {K : Act → World → Prop} {Q : Exit → Act → World → Prop} {E : Prop} (hgd : o.guard = none) (s x : Operand)
    (ho : o.op = .call { callee := .builtin .copy, args := #[s, x], argTypes := #[46, 46] })
    (g : Nat) (L : RL.R) (cur : List Value) (hg : Row w g 38 cur) (hcl : cur.length = L.length * 3) (hs : a.eval s = .slice (some ⟨g, 0, none⟩) L.length L.length)
    (b off C : Nat) (hx : a.eval x = .slice (some ⟨b, off, none⟩) L.length C) (hL : ∀ i u, (rcells L)[i]? = some u → w.cell? ⟨b, off + i, none⟩ = some u)
    (h : ∀ w', Row w' g 38 (rcells L) → w.grownBy w' (some g) → K (a.put o.dst (.int .i64 L.length)) w') :
    if Region.wanted o (yielded ops a.tmps) = true then Oper.wp Try.prog o a w K Q else E := by
  have hw : Region.wanted o (yielded ops a.tmps) = true := by simp [Region.wanted, hgd]
  rw [if_pos hw]
  have hinf : (Try.prog.info? 38).map (·.size) = some 3 := by
    obtain ⟨i0, hi0, hz0, hz1, hz2⟩ := info_parts valInfo
    rw [hi0]
    exact congrArg some hz1
  have hrun := run_copy_rowN (P := Try.prog) w 46 46 o.type 38 3 g 0 L.length L.length ⟨b, off, none⟩ L.length C cur.toArray 38 (rcells L) Try.underlying46 hinf hg (by rw [rcells_length]; simp) (by
    intro j v hj
    rw [Addr.add_lit]
    exact hL j v hj) (by simp [rcells_length, hcl]) (rcells_one L)
  unfold Oper.wp execOp
  simp only [ho, resolve, invoke, builtin, Sem.run_bind, Sem.run_pure, Result.andThen_ok, List.map_toArray, List.map_cons, List.map_nil, hs, hx, hrun]
  have e : (cur.toArray.toList.take 0 ++ rcells L ++ cur.toArray.toList.drop (0 + (rcells L).length)) = rcells L := by
    rw [List.take_zero, List.nil_append, Nat.zero_add, rcells_length, List.drop_eq_nil_of_le (by simp [hcl]), List.append_nil]
  rw [e]
  have hmin : Nat.min L.length L.length = L.length := Nat.min_self _
  rw [hmin]
  refine h _ (setRow_heap w g cur.toArray _ _ _ hg) ?_
  refine ⟨rfl, rfl, rfl, by simp [World.setRow], fun k hk hne => ?_⟩
  unfold World.setRow
  simp only [Array.getElem?_modify]
  rw [if_neg (fun e => hne (by rw [e]))]

/-- Where Children stands when k values of the prefix have been followed. -/
def Good (d : Nat) (P : List RL.R) (p : RL.R) (k : Nat) (x : Pl) : Prop :=
  (k = 0 ∧ x = none) ∨ ∃ i, 0 < k ∧ k ≤ p.length ∧ x = some (p.take (k - 1), i) ∧ (RL.kids d P (p.take (k - 1)))[i]? = p[k - 1]?
section
variable {d : Nat} {P : List RL.R} {p : RL.R} {k : Nat} {x : Pl} (hd : ∀ r ∈ P, r.length = d)
include hd
theorem kids_none {v : RL.V} (hk : k < p.length) (hv : p[k]? = some v) (hn : v ∉ RL.kids d P (p.take k)) : RL.kids d P p = [] := by
  rcases Nat.lt_or_ge p.length d with hpd | hpd
  rotate_left
  · exact RL.kids_out hpd
  · apply List.eq_nil_iff_forall_not_mem.2
    intro u hu
    obtain ⟨y, hy, e⟩ := (RL.mem_kids hd hpd u).1 hu
    apply hn
    have hl : (p.take k).length = k := by simp; omega
    refine (RL.mem_kids hd (by omega) v).2 ⟨y, hy, ?_⟩
    have h1 := congrArg (List.take (k + 1)) e
    rw [List.take_take, Nat.min_eq_left (by omega), List.take_append_of_le_length (by omega)] at h1
    obtain ⟨hk', hv'⟩ := List.getElem?_eq_some_iff.1 hv
    rw [hl, h1, List.take_succ_eq_append_getElem hk', hv']
omit hd in
theorem good_closed (hg : Good d P p k x) (hk : k ≤ p.length) (h : openB d P x = false) : RL.kids d P p = [] ∨ P = [] := by
  rcases hg with ⟨rfl, rfl⟩ | ⟨i, h0, -, rfl, hi⟩
  · have h1 : (decide (0 < d) && decide (P ≠ [])) = false := h
    simp at h1
    by_cases h2 : 0 < d
    · exact .inr (h1 h2)
    · exact .inl (RL.kids_out (by omega))
  · left
    have hv : p[k - 1]? = some (p[k - 1]'(by omega)) := List.getElem?_eq_getElem (by omega)
    rw [hv] at hi
    obtain ⟨hil, _⟩ := List.getElem?_eq_some_iff.1 hi
    have h1 : (decide (i < (RL.kids d P (p.take (k - 1))).length) && decide ((p.take (k - 1)).length + 1 < d)) = false := h
    simp at h1
    have h2 := h1 hil
    exact RL.kids_out (by omega)
omit hd in
theorem kids_empty (d : Nat) (q : RL.R) : RL.kids d [] q = [] := by unfold RL.kids; rw [RL.nodes_nil]; rfl
theorem good_closed' (hg : Good d P p k x) (hk : k ≤ p.length) (h : openB d P x = false) : RL.kids d P p = [] := by
  rcases good_closed hg hk h with h1 | rfl
  · exact h1
  · exact kids_empty d p
theorem good_open (hg : Good d P p k x) (hk : k ≤ p.length) (h : openB d P x = true) : openX d P x = some (p.take k, 0) ∧ 0 < (RL.kids d P (p.take k)).length ∧ k < d := by
  rcases hg with ⟨rfl, rfl⟩ | ⟨i, h0, -, rfl, hi⟩
  · have h1 : (decide (0 < d) && decide (P ≠ [])) = true := h
    have h2 : openX d P none = some ([], 0) := by show (if _ then _ else _) = _; rw [h]; rfl
    simp at h1
    exact ⟨by rw [List.take_zero]; exact h2, by rw [List.take_zero]; exact RL.kids_pos (by simpa using h1.1) (.inl ⟨rfl, h1.2⟩), h1.1⟩
  · have hv : p[k - 1]? = some (p[k - 1]'(by omega)) := List.getElem?_eq_getElem (by omega)
    rw [hv] at hi
    obtain ⟨hil, hie⟩ := List.getElem?_eq_some_iff.1 hi
    have h1 : (decide (i < (RL.kids d P (p.take (k - 1))).length) && decide ((p.take (k - 1)).length + 1 < d)) = true := h
    simp at h1
    have hlen : (p.take (k - 1)).length = k - 1 := by simp; omega
    have hkd : k < d := by omega
    have hkey : keyV d P (some (p.take (k - 1), i)) = p[k - 1]'(by omega) := by
      show (RL.kids d P _).getD i _ = _
      rw [List.getD_eq_getElem?_getD, hi]
      rfl
    have htk : p.take (k - 1) ++ [p[k - 1]'(by omega)] = p.take k := by
      have := List.take_succ_eq_append_getElem (l := p) (i := k - 1) (by omega)
      rw [← this, show k - 1 + 1 = k by omega]
    have h2 : openX d P (some (p.take (k - 1), i)) = some (p.take k, 0) := by
      show (if _ then _ else _) = _
      rw [h, hkey, htk]
      rfl
    refine ⟨h2, RL.kids_pos (by simp; omega) (.inr ⟨k - 1, by simp; omega, ?_⟩), hkd⟩
    have := at_node hd hi
    rw [htk, hlen] at this
    exact this
theorem good_next {v : RL.V} (hk : k < p.length) (hv : p[k]? = some v) (hpos : 0 < (RL.kids d P (p.take k)).length) :
    (onX d P (seekX d P v (some (p.take k, 0))) = false → RL.kids d P p = []) ∧ (keyV d P (seekX d P v (some (p.take k, 0))) ≠ v → onX d P (seekX d P v (some (p.take k, 0))) = true → RL.kids d P p = []) ∧
    (keyV d P (seekX d P v (some (p.take k, 0))) = v → onX d P (seekX d P v (some (p.take k, 0))) = true → Good d P p (k + 1) (seekX d P v (some (p.take k, 0)))) := by
  have e : seekX d P v (some (p.take k, 0)) = some (p.take k, (RL.kids d P (p.take k)).countP fun u => decide (RL.cmpV u v < 0)) := by
    show (if _ then _ else _) = _
    rw [if_pos hpos, Nat.zero_max]
  rw [e]
  have hasc := RL.kids_asc hd (p.take k) (d := d)
  generalize hK : RL.kids d P (p.take k) = K at *
  have hmem : v ∈ K → ∃ h : (K.countP fun u => decide (RL.cmpV u v < 0)) < K.length, K[(K.countP fun u => decide (RL.cmpV u v < 0))] = v := fun hm => by
    obtain ⟨j, hj, rfl⟩ := List.getElem_of_mem hm
    have hc : (K.countP fun u => decide (RL.cmpV u K[j] < 0)) = j := countP_asc hasc (by omega) (fun i hi hij => List.pairwise_iff_getElem.1 hasc i j hi hj hij) (fun _ => by rw [RL.tot_cmpV.self]; omega)
    refine ⟨by rw [hc]; exact hj, ?_⟩
    simp only [hc]
  have hon : onX d P (some (p.take k, K.countP fun u => decide (RL.cmpV u v < 0))) = decide ((K.countP fun u => decide (RL.cmpV u v < 0)) < K.length) := by show decide (_ < (RL.kids d P (p.take k)).length) = _; rw [hK]
  have hkey : keyV d P (some (p.take k, K.countP fun u => decide (RL.cmpV u v < 0))) = K.getD (K.countP fun u => decide (RL.cmpV u v < 0)) ⟨0, 0, ⟨#[]⟩⟩ := by show (RL.kids d P (p.take k)).getD _ _ = _; rw [hK]
  rw [hon, hkey]
  refine ⟨fun h => kids_none hd hk hv (fun hm => ?_), fun h1 h2 => kids_none hd hk hv (fun hm => ?_), fun h1 h2 => ?_⟩
  · rw [hK] at hm
    obtain ⟨hlt, _⟩ := hmem hm
    simp at h
    omega
  · rw [hK] at hm
    obtain ⟨hlt, he⟩ := hmem hm
    apply h1
    rw [List.getD_eq_getElem?_getD, List.getElem?_eq_getElem hlt, he]
    rfl
  · simp only [decide_eq_true_eq] at h2
    refine .inr ⟨_, by omega, by omega, rfl, ?_⟩
    rw [show k + 1 - 1 = k by omega, hK, hv, List.getElem?_eq_getElem h2]
    rw [List.getD_eq_getElem?_getD, List.getElem?_eq_getElem h2] at h1
    exact congrArg some h1
end

/-- The values below q stand in a row in their level. -/
theorem kids_range (d : Nat) (P : List RL.R) (q : RL.R) : RL.kids d P q = ((vsF d P q.length).drop (RL.lo d P q)).take (RL.kids d P q).length := by
  conv => rhs; rw [RL.kids_len]
  unfold RL.kids vsF RL.lo
  rw [RL.filter_range (RL.nodes_ss d P q.length) q, List.map_take, List.map_drop]
theorem kids_cells {B : Nat} {w : World} {d : Nat} {P : List RL.R} {q : RL.R} {A : Option Addr} (h : SlR B w A (vsF d P q.length)) (hpos : 0 < (RL.kids d P q).length) :
    ∃ b o, A = some ⟨b, o, none⟩ ∧ b < B ∧ ∀ i u, (rcells (RL.kids d P q))[i]? = some u → w.cell? ⟨b, o + RL.lo d P q * 3 + i, none⟩ = some u := by
  have hfit := RL.kids_fit (d := d) (P := P) q
  rw [← vsF_len] at hfit
  have hne : rcells (vsF d P q.length) ≠ [] := by
    intro h0
    have := congrArg List.length h0
    rw [rcells_length] at this
    simp only [List.length_nil] at this
    omega
  obtain ⟨b, o, e, hb, hc⟩ := h hne
  refine ⟨b, o, e, hb, fun i u hu => ?_⟩
  have hil : i < (RL.kids d P q).length * 3 := by
    have := (List.getElem?_eq_some_iff.1 hu).1
    rw [rcells_length] at this
    exact this
  rw [Nat.add_assoc]
  apply hc
  rw [kids_range, rcells_take, rcells_drop, List.getElem?_take_of_lt hil, List.getElem?_drop] at hu
  exact hu

end Go.Proofs.Ytlcammcifjihpaa
end

section
/- Walk: trie.Children. -/
namespace Go.Proofs.Ytlcammcifjihpaa
open Go.RowKit Go.Sort

theorem makeVals0 (n : Nat) (hn : n ≤ 1000000) (w : World) : (Instr.makeSlice 46 (.int .i64 (n : Int)) (.int .i64 (n : Int))).run Try.prog w = .ok (.slice (some ⟨w.heap.size, 0, none⟩) n n) (w.alloc (.cells (zerosV n) 38)) := by
  obtain ⟨i0, hi0, hz0, hz1, hz2⟩ := info_parts valInfo
  have h1 := run_make (P := Try.prog) w 47 38 i0 _ Try.underlying47 hi0 hz0 .i64 .i64 n n (by omega) (by omega) (by rw [hz2]; omega) (by omega)
  have h2 := run_make (P := Try.prog) w 46 38 i0 _ Try.underlying46 hi0 hz0 .i64 .i64 n n (by omega) (by omega) (by rw [hz2]; omega) (by omega)
  rw [h2, ← h1]
  exact makeVals n hn w
/-- What Children leaves: the values below the prefix. -/
def KidsPost (w : World) (d : Nat) (P : List RL.R) (p : RL.R) (e : Ending) (w' : World) : Prop :=
  ∃ A C, e = .returned (.slice A (RL.kids d P p).length C) ∧ (RL.kids d P p).length ≤ C ∧ C ≤ 9223372036854775807 ∧ SlR w'.heap.size w' A (RL.kids d P p) ∧ Below w.heap.size w w'
theorem KidsPost.none {w w' : World} {d : Nat} {P : List RL.R} {p : RL.R} {e : Ending} (h : RL.kids d P p = []) (he : e = .returned (.slice none 0 0)) (hb : Below w.heap.size w w') : KidsPost w d P p e w' :=
  ⟨Option.none, 0, by rw [h]; exact he, by rw [h]; exact Nat.le_refl _, by omega, by rw [h]; exact SlR.nil, hb⟩

set_option maxHeartbeats 8000000 in
set_option maxRecDepth 100000 in
theorem trChildren_any (LA PA : Option Addr) (d C PC : Nat) (P : List RL.R) (p : RL.R) (w : World) (h : TrM w.heap.size w LA d (vsF d P) (fsF d P)) (hp : SlR w.heap.size w PA p) (hd : d ≤ 32) (hP : P.length ≤ 100000) (hr : ∀ r ∈ P, r.length = d) (_hpl : p.length ≤ 1000000) :
    Calls Try.prog 27 #[.agg #[.slice LA d C], .slice PA p.length PC] w (KidsPost w d P p) := by
  have HT := Lib.hid h
  have HP := Lib.hid hp
  have HRR := Lib.hid hr
  have HIT := Lib.hid (fun W => itIter LA d C P W)
  have hmf : ∀ (fn : Fn) (first cap : Array Value) (w : World), (Instr.makeFunc fn first cap).run Try.prog w = .ok (.func fn first cap) w := fun _ _ _ _ => rfl
  have HB0 := Lib.hid ((Ext.refl w).alloc (.cells #[.slice LA d C] 31))
  have HR0 := Lib.hid (Row.new w 31 [.slice LA d C])
  clear h hp hr
  go_enter Try.func27, Try.ntmps27
  go_wp2_with fail
  refine (HIT.out _).mono ?_
  rintro e w1 ⟨g, rfl, hg, hit, hb⟩
  have HIT1 := Lib.hid hit
  have HR1 := Lib.hid (HR0.out.up hb)
  have HB1 := Lib.hid (Below.then HB0.out.below hb HB0.out.size)
  have hz0 := HB0.out.size
  have hgw : w.heap.size < g := by have := HR0.out.lt; omega
  clear hit hb HIT HR0 HB0 hg
  go_wp2
  go_loopw [24] (fun m wr => ∃ (k : Nat) (x : Pl) (s : Nat), k ≤ p.length ∧ m = .int .i64 k ∧ Good d P p k x ∧ IterP wr g LA d C P x s ∧ s ≤ k * 200002 ∧ Row wr w.heap.size 31 [.slice LA d C] ∧ Below w.heap.size w wr) (fun m _ => p.length - (intOf m).toNat)
  case atStart => exact ⟨0, none, 0, Nat.zero_le _, rfl, .inl ⟨rfl, rfl⟩, HIT1.out, Nat.zero_le _, HR1.out, HB1.out⟩
  case round =>
    obtain ⟨k, x, s, hka, rfl, hgood, hit, hs, hrow, hbw⟩ := hrel
    have HGOOD := Lib.hid hgood
    have HI := Lib.hid hit
    have HROW := Lib.hid hrow
    have HBW := Lib.hid hbw
    have hsz := hbw.size
    clear hgood hit hrow hbw HIT1 HR1 HB1
    by_cases h1 : k < p.length
    rotate_left
    · have hkp : k = p.length := by omega
      have hge : ¬ k < p.length := h1
      have HO := Lib.hid (itOpen w.heap.size g LA d C P x s wr (HT.out.below HBW.out (Nat.le_refl _)) hsz HI.out hd hP HRR.out)
      cases hob : openB d P x
      · have HK0 := Lib.hid (good_closed' HRR.out HGOOD.out hka hob)
        rw [hob] at HO
        clear hob hkp
        go_wp2_with fail
        refine HO.out.mono ?_
        rintro e w3 ⟨rfl, hit3, hg3⟩
        have HB3 := Lib.hid (Below.then HBW.out (below_of_grown hg3 (by omega : w.heap.size ≤ g) hsz) (Nat.le_refl _))
        clear hit3 hg3
        go_wp2
        go_ret
        exact KidsPost.none HK0.out rfl HB3.out
      obtain ⟨hox, hpos, hkd⟩ := good_open HRR.out HGOOD.out hka hob
      rw [hob, hox] at HO
      rw [hkp, List.take_length] at hpos
      rw [hkp, List.take_length] at HO
      rw [hkp] at hkd
      clear hob hox hkp HGOOD
      go_wp2_with fail
      refine HO.out.mono ?_
      rintro e w3 ⟨rfl, hit3, hg3⟩
      have HB3 := Lib.hid (Below.then HBW.out (below_of_grown hg3 (by omega : w.heap.size ≤ g) hsz) (Nat.le_refl _))
      have hrow3 := HROW.out.grown hg3 (fun e => by injection e; omega)
      obtain ⟨t, hm, -, hat⟩ := hit3
      have c2 := hm.c2
      have c3 := hm.c3
      have hatp : t.pos = RL.lo d P p + 0 := hat.pos
      have hatf : t.fin = RL.lo d P p + (RL.kids d P p).length := hat.fin
      rw [hatp, Nat.add_zero] at c2
      rw [hatf] at c3
      have hgz3 := hm.lt
      obtain ⟨b, o, VA, VC, FA, FC, hLA, hb, h3, -, h5, h6, h7, -⟩ := (HT.out.below HB3.out (Nat.le_refl _)) p.length (by omega)
      obtain ⟨b2, o2, hVA, hb2, hcells⟩ := kids_cells h7 hpos
      subst hLA hVA
      have hfit := RL.kids_fit (d := d) (P := P) p
      rw [← vsF_len] at hfit
      have hvl := vsF_le d P p.length
      have HCE := Lib.hid hcells
      have t0 : w3.cell? ⟨w.heap.size, 0, none⟩ = some (.slice (some ⟨b, o, none⟩) d C) := hrow3.cell 0
      have HKP : Hid (∀ L, L = RL.kids d P p → ∀ e w' A C, e = .returned (.slice A L.length C) → L.length ≤ C → C ≤ 9223372036854775807 → SlR w'.heap.size w' A L → Below w.heap.size w w' → KidsPost w d P p e w') := fun L hL e w' A C h1 h2 h3 h4 h5 => by subst hL; exact ⟨A, C, h1, h2, h3, h4, h5⟩
      have HR3 := Lib.hid hrow3
      have hz3 := HB3.out.size
      have hwg3 := hg3.size
      clear HO HT HP HRR hg3 hm hat hatp hatf h7 hcells HI HROW HBW hrow3
      obtain ⟨L, hL⟩ : ∃ L, L = RL.kids d P p := ⟨_, rfl⟩
      have HKP2 := Lib.hid (HKP.out L hL)
      rw [← hL] at hpos hfit HCE c3
      clear hL HKP
      generalize RL.lo d P p = q at *
      generalize (vsF d P p.length).length = n at *
      have g1 : (p.length : Int) < (d : Int) := by omega
      obtain ⟨f, hf⟩ : ∃ f, f = q + L.length := ⟨_, rfl⟩
      rw [← hf] at c3 hfit
      have q1 : q ≤ f := by omega
      have q2 : f ≤ VC := by omega
      have q3 : (q : Int) ≤ (f : Int) := by omega
      have HF : Hid (f - q = L.length) := by show _ = _; omega
      have g2 : IntKind.i64.wrap ((f : Int) - (q : Int)) = (L.length : Int) := by rw [IntWalk.i64_in _ (by omega)]; omega
      have g3 : (f : Int) - (q : Int) = (L.length : Int) := by omega
      have g4 : L.length ≤ 1000000 := by omega
      clear hf
      have hmk := makeVals0 L.length g4
      go_wp2
      go_still_tail 11, (by kernel_rfl)
      go_wp2
      rw [hmk]
      go_wp2
      have hx5 : Ext w3 ((w3.alloc (.cells (zerosV L.length) 38)).drew) := ((Ext.refl w3).alloc _).drew
      have hn5 : Row ((w3.alloc (.cells (zerosV L.length) 38)).drew) w3.heap.size 38 (rcells (List.replicate L.length zV)) := Row.new w3 38 (rcells (List.replicate L.length zV))
      generalize (w3.alloc (.cells (zerosV L.length) 38)).drew = W5 at *
      have e0 : W5.cell? ⟨w.heap.size, 0, none⟩ = some (.slice (some ⟨b, o, none⟩) d C) := (hx5.cell (by omega)).trans t0
      have e2 : W5.cell? ⟨g, 2, none⟩ = some (.int .i64 q) := (hx5.cell hgz3).trans c2
      have e3 : W5.cell? ⟨g, 3, none⟩ = some (.int .i64 f) := (hx5.cell hgz3).trans c3
      have e4 : W5.cell? ⟨b, o + p.length * 2, none⟩ = some (.slice (some ⟨b2, o2, none⟩) n VC) := (hx5.cell (by omega)).trans h3
      have HX5 := Lib.hid hx5
      have HN5 := Lib.hid hn5
      clear t0 c2 c3 h3 hx5 hn5 hmk
      refine wp_region_held_drew (S := (fun w' => w'.cell? ⟨w.heap.size, 0, none⟩ = some (.slice (some ⟨b, o, none⟩) d C) ∧ w'.cell? ⟨g, 2, none⟩ = some (.int .i64 q) ∧ w'.cell? ⟨g, 3, none⟩ = some (.int .i64 f) ∧ w'.cell? ⟨b, o + p.length * 2, none⟩ = some (.slice (some ⟨b2, o2, none⟩) n VC))) (by kernel_rfl) ⟨e0, e2, e3, e4⟩ (fun hHeld => ?_)
      refine takeOp (i := 0) (v := ?_) (some 62) rfl rfl (by kernel_rfl) (by kernel_rfl) (by kernel_rfl) (fun _ _ _ h => h) (Or.inl ⟨by rfl, ?_⟩) (by assumption) ?_
      rotate_left 1
      · (intro w0 hSw; (try dsimp only at hSw); go_simp; try (with_reducible rfl))
      try simp only [Act.put]
      try simp only [List.setIfInBounds_toArray]
      try simp only [List.set_cons_succ]
      try simp only [List.set_cons_zero]
      refine takeOp (i := 1) (v := ?_) (some 63) rfl rfl (by kernel_rfl) (by kernel_rfl) (by kernel_rfl) (fun _ _ _ h => h) (Or.inl ⟨by rfl, ?_⟩) (by assumption) ?_
      rotate_left 1
      · (intro w0 hSw; (try dsimp only at hSw); go_simp; try (with_reducible rfl))
      try simp only [Act.put]
      try simp only [List.setIfInBounds_toArray]
      try simp only [List.set_cons_succ]
      try simp only [List.set_cons_zero]
      refine takeOp (i := 2) (v := ?_) (some 64) rfl rfl (by kernel_rfl) (by kernel_rfl) (by kernel_rfl) (fun _ _ _ h => h) (Or.inl ⟨by rfl, ?_⟩) (by assumption) ?_
      rotate_left 1
      · (intro w0 hSw; (try dsimp only at hSw); go_simp; try (with_reducible rfl))
      try simp only [Act.put]
      try simp only [List.setIfInBounds_toArray]
      try simp only [List.set_cons_succ]
      try simp only [List.set_cons_zero]
      refine takeOp (i := 3) (v := ?_) (some 65) rfl rfl (by kernel_rfl) (by kernel_rfl) (by kernel_rfl) (fun _ _ _ h => h) (Or.inl ⟨by rfl, ?_⟩) (by assumption) ?_
      rotate_left 1
      · (intro w0 hSw; (try dsimp only at hSw); go_simp; try (with_reducible rfl))
      try simp only [Act.put]
      try simp only [List.setIfInBounds_toArray]
      try simp only [List.set_cons_succ]
      try simp only [List.set_cons_zero]
      refine takeOp (i := 4) (v := ?_) (some 66) rfl rfl (by kernel_rfl) (by kernel_rfl) (by kernel_rfl) (fun _ _ _ h => h) (Or.inl ⟨by rfl, ?_⟩) (by assumption) ?_
      rotate_left 1
      · (intro w0 hSw; (try dsimp only at hSw); go_simp; try (with_reducible rfl))
      try simp only [Act.put]
      try simp only [List.setIfInBounds_toArray]
      try simp only [List.set_cons_succ]
      try simp only [List.set_cons_zero]
      refine takeOp (i := 5) (v := ?_) (some 67) rfl rfl (by kernel_rfl) (by kernel_rfl) (by kernel_rfl) (fun _ _ _ h => h) (Or.inl ⟨by rfl, ?_⟩) (by assumption) ?_
      rotate_left 1
      · (intro w0 hSw; (try dsimp only at hSw); go_simp; try (with_reducible rfl))
      try simp only [Act.put]
      try simp only [List.setIfInBounds_toArray]
      try simp only [List.set_cons_succ]
      try simp only [List.set_cons_zero]
      refine takeOp (i := 6) (v := ?_) (some 68) rfl rfl (by kernel_rfl) (by kernel_rfl) (by kernel_rfl) (fun _ _ _ h => h) (Or.inl ⟨by rfl, ?_⟩) (by assumption) ?_
      rotate_left 1
      · (intro w0 hSw; (try dsimp only at hSw); go_simp; try (with_reducible rfl))
      try simp only [Act.put]
      try simp only [List.setIfInBounds_toArray]
      try simp only [List.set_cons_succ]
      try simp only [List.set_cons_zero]
      refine takeOp (i := 7) (v := ?_) (some 69) rfl rfl (by kernel_rfl) (by kernel_rfl) (by kernel_rfl) (fun _ _ _ h => h) (Or.inl ⟨by rfl, ?_⟩) (by assumption) ?_
      rotate_left 1
      · (intro w0 hSw; (try dsimp only at hSw); go_simp; try (with_reducible rfl))
      try simp only [Act.put]
      try simp only [List.setIfInBounds_toArray]
      try simp only [List.set_cons_succ]
      try simp only [List.set_cons_zero]
      refine takeOp (i := 8) (v := ?_) (some 70) rfl rfl (by kernel_rfl) (by kernel_rfl) (by kernel_rfl) (fun _ _ _ h => h) (Or.inl ⟨by rfl, ?_⟩) (by assumption) ?_
      rotate_left 1
      · (intro w0 hSw; (try dsimp only at hSw); go_simp; try (with_reducible rfl))
      try simp only [Act.put]
      try simp only [List.setIfInBounds_toArray]
      try simp only [List.set_cons_succ]
      try simp only [List.set_cons_zero]
      refine takeOp (i := 9) (v := ?_) (some 71) rfl rfl (by kernel_rfl) (by kernel_rfl) (by kernel_rfl) (fun _ _ _ h => h) (Or.inl ⟨by rfl, ?_⟩) (by assumption) ?_
      rotate_left 1
      · (intro w0 hSw; (try dsimp only at hSw); go_simp; try (with_reducible rfl))
      try simp only [Act.put]
      try simp only [List.setIfInBounds_toArray]
      try simp only [List.set_cons_succ]
      try simp only [List.set_cons_zero]
      refine takeOp (i := 10) (v := ?_) (some 72) rfl rfl (by kernel_rfl) (by kernel_rfl) (by kernel_rfl) (fun _ _ _ h => h) (Or.inl ⟨by rfl, ?_⟩) (by assumption) ?_
      rotate_left 1
      · (intro w0 hSw; (try dsimp only at hSw); go_simp; try (with_reducible rfl))
      try simp only [Act.put]
      try simp only [List.setIfInBounds_toArray]
      try simp only [List.set_cons_succ]
      try simp only [List.set_cons_zero]
      refine takeOp (i := 11) (v := ?_) (some 73) rfl rfl (by kernel_rfl) (by kernel_rfl) (by kernel_rfl) (fun _ _ _ h => h) (Or.inl ⟨by rfl, ?_⟩) (by assumption) ?_
      rotate_left 1
      · (intro w0 hSw; (try dsimp only at hSw); go_simp; try (with_reducible rfl))
      try simp only [Act.put]
      try simp only [List.setIfInBounds_toArray]
      try simp only [List.set_cons_succ]
      try simp only [List.set_cons_zero]
      refine takeOp (i := 12) (v := ?_) (some 74) rfl rfl (by kernel_rfl) (by kernel_rfl) (by kernel_rfl) (fun _ _ _ h => h) (Or.inl ⟨by rfl, ?_⟩) (by assumption) ?_
      rotate_left 1
      · (intro w0 hSw; (try dsimp only at hSw); go_simp; try (with_reducible rfl))
      try simp only [Act.put]
      try simp only [List.setIfInBounds_toArray]
      try simp only [List.set_cons_succ]
      try simp only [List.set_cons_zero]
      refine takeOp (i := 13) (v := ?_) (some 75) rfl rfl (by kernel_rfl) (by kernel_rfl) (by kernel_rfl) (fun _ _ _ h => h) (Or.inl ⟨by rfl, ?_⟩) (by assumption) ?_
      rotate_left 1
      · (intro w0 hSw; (try dsimp only at hSw); go_simp; try (with_reducible rfl))
      try simp only [Act.put]
      try simp only [List.setIfInBounds_toArray]
      try simp only [List.set_cons_succ]
      try simp only [List.set_cons_zero]
      refine takeOp (i := 14) (v := ?_) (some 76) rfl rfl (by kernel_rfl) (by kernel_rfl) (by kernel_rfl) (fun _ _ _ h => h) (Or.inl ⟨by rfl, ?_⟩) (by assumption) ?_
      rotate_left 1
      · (intro w0 hSw; (try dsimp only at hSw); go_simp; try (with_reducible rfl))
      try simp only [Act.put]
      try simp only [List.setIfInBounds_toArray]
      try simp only [List.set_cons_succ]
      try simp only [List.set_cons_zero]
      refine takeOp (i := 15) (v := ?_) (some 77) rfl rfl (by kernel_rfl) (by kernel_rfl) (by kernel_rfl) (fun _ _ _ h => h) (Or.inl ⟨by rfl, ?_⟩) (by assumption) ?_
      rotate_left 1
      · (intro w0 hSw; (try dsimp only at hSw); go_simp; try (with_reducible rfl))
      try simp only [Act.put]
      try simp only [List.setIfInBounds_toArray]
      try simp only [List.set_cons_succ]
      try simp only [List.set_cons_zero]
      refine takeOp (i := 16) (v := ?_) (some 78) rfl rfl (by kernel_rfl) (by kernel_rfl) (by kernel_rfl) (fun _ _ _ h => h) (Or.inl ⟨by rfl, ?_⟩) (by assumption) ?_
      rotate_left 1
      · (intro w0 hSw; (try dsimp only at hSw); go_simp; try (with_reducible rfl))
      try simp only [Act.put]
      try simp only [List.setIfInBounds_toArray]
      try simp only [List.set_cons_succ]
      try simp only [List.set_cons_zero]
      refine takeOp (i := 17) (v := ?_) (some 79) rfl rfl (by kernel_rfl) (by kernel_rfl) (by kernel_rfl) (fun _ _ _ h => h) (Or.inl ⟨by rfl, ?_⟩) (by assumption) ?_
      rotate_left 1
      · (intro w0 hSw; (try dsimp only at hSw); go_simp; try (with_reducible rfl))
      try simp only [Act.put]
      try simp only [List.setIfInBounds_toArray]
      try simp only [List.set_cons_succ]
      try simp only [List.set_cons_zero]
      refine takeOp (i := 18) (v := ?_) (some 80) rfl rfl (by kernel_rfl) (by kernel_rfl) (by kernel_rfl) (fun _ _ _ h => h) (Or.inl ⟨by rfl, ?_⟩) (by assumption) ?_
      rotate_left 1
      · (intro w0 hSw; (try dsimp only at hSw); go_simp; try (with_reducible rfl))
      try simp only [Act.put]
      try simp only [List.setIfInBounds_toArray]
      try simp only [List.set_cons_succ]
      try simp only [List.set_cons_zero]
      refine wpAnyH_ready (rs := [19]) (by kernel_rfl) (by simp) ?_
      refine AllReadyH.cons rfl (fun K hK => ?_) AllReadyH.nil
      refine stepCopyV (w := W5.drew) rfl (.tmp 62) (.tmp 80) rfl w3.heap.size L (rcells (List.replicate L.length zV)) HN5.out (by rw [rcells_length]; simp) (by simp [Act.eval]) b2 (o2 + q * 3) (VC - q) (by simp [Act.eval, HF.out]; intro h; omega) (fun i u hu => (HX5.out.cell (by omega)).trans (HCE.out i u hu)) ?_
      intro w6 hr6 hg6
      have hne5 := HN5.out.lt
      have KEEP : w6.cell? ⟨w.heap.size, 0, none⟩ = some (.slice (some ⟨b, o, none⟩) d C) ∧ w6.cell? ⟨g, 2, none⟩ = some (.int .i64 q) ∧ w6.cell? ⟨g, 3, none⟩ = some (.int .i64 f) ∧ w6.cell? ⟨b, o + p.length * 2, none⟩ = some (.slice (some ⟨b2, o2, none⟩) n VC) := by
        have hzz5 := HX5.out.size
        refine ⟨(grown_cell hg6 (p := ⟨w.heap.size, 0, none⟩) (by show w.heap.size < W5.heap.size; omega) (fun e => by injection e with e; simp only at e; omega)).trans e0, (grown_cell hg6 (p := ⟨g, 2, none⟩) (by show g < W5.heap.size; omega) (fun e => by injection e with e; simp only at e; omega)).trans e2, (grown_cell hg6 (p := ⟨g, 3, none⟩) (by show g < W5.heap.size; omega) (fun e => by injection e with e; simp only at e; omega)).trans e3, (grown_cell hg6 (p := ⟨b, o + p.length * 2, none⟩) (by show b < W5.heap.size; omega) (fun e => by injection e with e; simp only at e; omega)).trans e4⟩
      have HR6 := Lib.hid hr6
      have HB6 := Lib.hid (Below.then (Below.then HB3.out HX5.out.below hz3) (Below.undrew (below_of_grown (w := W5.drew) hg6 (Nat.le_refl w3.heap.size) HX5.out.size)) (by omega))
      clear hr6 hg6
      refine hK.out _ _ KEEP (fun hHeld => ?_)
      clear hK K
      try simp only [Act.put]
      try simp only [List.setIfInBounds_toArray]
      try simp only [List.set_cons_succ]
      try simp only [List.set_cons_zero]
      refine wpAnyH_done (by kernel_rfl) ?_ _
      go_wp2
      go_ret
      refine HKP2.out _ _ _ _ rfl (Nat.le_refl _) (by omega) ?_ HB6.out
      exact HR6.out.sl
    obtain ⟨b, o, hA, hb, c1, c2, c3⟩ := slR_at HP.out h1
    subst hA
    have HV : Hid (p[k]? = some p[k]) := List.getElem?_eq_getElem h1
    generalize p[k] = v at *
    have c1 := (HBW.out.cell (p := ⟨b, o + k * 3, none⟩) hb).trans c1
    have c2 := (HBW.out.cell (p := ⟨b, o + k * 3 + 1, none⟩) hb).trans c2
    have c3 := (HBW.out.cell (p := ⟨b, o + k * 3 + 2, none⟩) hb).trans c3
    obtain ⟨W2, hW2⟩ : ∃ W2, W2 = wr.alloc (.cells #[.int .i64 v.kind, .int .i64 v.int, .string v.str] 38) := ⟨_, rfl⟩
    have hx2 : Ext wr W2 := by rw [hW2]; exact (Ext.refl wr).alloc _
    have hv2 : Row W2 wr.heap.size 38 (vcells v) := by rw [hW2]; exact Row.new wr 38 (vcells v)
    have HX2 := Lib.hid hx2
    have HV2 := Lib.hid hv2
    have HI2 := Lib.hid (HI.out.ext hx2)
    have hgz := HI.out.lt
    have HB2 := Lib.hid (Below.then HBW.out hx2.below hsz)
    have HO := Lib.hid (itOpen w.heap.size g LA d C P x s W2 (HT.out.below HB2.out (Nat.le_refl _)) HB2.out.size HI2.out hd hP HRR.out)
    clear hx2 hv2
    cases hob : openB d P x
    · have HK0 := Lib.hid (good_closed' HRR.out HGOOD.out hka hob)
      rw [hob] at HO
      clear hob
      go_wp2_with fail
      rw [← hW2]
      clear hW2
      refine HO.out.mono ?_
      rintro e w3 ⟨rfl, hit3, hg3⟩
      have HB3 := Lib.hid (Below.then HB2.out (below_of_grown hg3 (by omega : w.heap.size ≤ g) HB2.out.size) (Nat.le_refl _))
      clear hit3 hg3
      go_wp2
      go_ret
      exact KidsPost.none HK0.out rfl HB3.out
    · obtain ⟨hox, hpos, hkd⟩ := good_open HRR.out HGOOD.out hka hob
      obtain ⟨hn1, hn2, hn3⟩ := good_next HRR.out h1 HV.out hpos
      rw [hob, hox] at HO
      clear hob hox
      have HN1 := Lib.hid hn1
      have HN2 := Lib.hid hn2
      have HN3 := Lib.hid hn3
      clear hn1 hn2 hn3
      obtain ⟨x3, hx3⟩ : ∃ x3, x3 = seekX d P v (some (p.take k, 0)) := ⟨_, rfl⟩
      rw [← hx3] at HN1 HN2 HN3
      have HSK : Hid (∀ W, TrM w.heap.size W LA d (vsF d P) (fsF d P) → w.heap.size ≤ W.heap.size → IterP W g LA d C P (some (p.take k, 0)) s → Calls Try.prog 14 #[.pointer (some ⟨g, 0, none⟩), vv v] W fun e w' => ∃ s', e = .returned (.bool (onX d P x3)) ∧ IterP w' g LA d C P x3 s' ∧ s' ≤ s + 200002 ∧ W.grownBy w' (some g)) := fun W hT hz hI => by
        rw [hx3]
        exact itSeek w.heap.size g LA d C P _ s v W hT hz (by omega) hI hd hP HRR.out (by omega)
      clear hx3
      go_wp2_with fail
      rw [← hW2]
      clear hW2
      refine HO.out.mono ?_
      rintro e w3 ⟨rfl, hit3, hg3⟩
      have HB3 := Lib.hid (Below.then HB2.out (below_of_grown hg3 (by omega : w.heap.size ≤ g) HB2.out.size) (Nat.le_refl _))
      have hrow3 := HV2.out.grown hg3 (fun e => by injection e; omega)
      have n1 : w3.cell? ⟨wr.heap.size, 0, none⟩ = some (.int .i64 v.kind) := hrow3.cell 0
      have n2 : w3.cell? ⟨wr.heap.size, 1, none⟩ = some (.int .i64 v.int) := hrow3.cell 1
      have n3 : w3.cell? ⟨wr.heap.size, 2, none⟩ = some (.string v.str) := hrow3.cell 2
      have HV3 := Lib.hid hrow3
      have HI3 := Lib.hid hit3
      have HG3 := Lib.hid hg3
      clear hrow3 hit3 hg3
      go_wp2_with fail
      refine (HSK.out w3 (HT.out.below HB3.out (Nat.le_refl _)) HB3.out.size HI3.out).mono ?_
      rintro e w4 ⟨s4, rfl, hit4, hs4, hg4⟩
      have HB4 := Lib.hid (Below.then HB3.out (below_of_grown hg4 (by omega : w.heap.size ≤ g) HB3.out.size) (Nat.le_refl _))
      have hz3 := HG3.out.size
      have hz2 := HV2.out.lt
      have hrow4 := HV3.out.grown hg4 (fun e => by injection e; omega)
      have n1' : w4.cell? ⟨wr.heap.size, 0, none⟩ = some (.int .i64 v.kind) := hrow4.cell 0
      have n2' : w4.cell? ⟨wr.heap.size, 1, none⟩ = some (.int .i64 v.int) := hrow4.cell 1
      have n3' : w4.cell? ⟨wr.heap.size, 2, none⟩ = some (.string v.str) := hrow4.cell 2
      have HV4 := Lib.hid hrow4
      have HI4 := Lib.hid hit4
      have HR4 := Lib.hid (((HROW.out.up HX2.out.below).grown HG3.out (fun e => by injection e; omega)).grown hg4 (fun e => by injection e; omega))
      have HKY := Lib.hid (itKey w.heap.size g LA d C P x3 s4 w4 (HT.out.below HB4.out (Nat.le_refl _)) HB4.out.size hit4 hd hP HRR.out)
      clear hrow4 hit4 hg4 n1 n2 n3 HV3 HI3 HG3 HSK HO
      cases hon : onX d P x3
      · have HK0 := Lib.hid (HN1.out hon)
        clear HN1 HN2 HN3
        go_wp2
        go_ret
        exact KidsPost.none HK0.out rfl HB4.out
      · rw [hon] at HKY
        have HN2' := Lib.hid (fun h => HN2.out h hon)
        have HN3' := Lib.hid (fun h => HN3.out h hon)
        clear HN1 HN2 HN3 hon
        generalize keyV d P x3 = key at *
        go_wp2_with fail
        refine HKY.out.mono ?_
        rintro e w5 ⟨rfl, hb5⟩
        have HB5 := Lib.hid (Below.then HB4.out hb5 HB4.out.size)
        have hrow5 := HV4.out.up hb5
        have n1 : w5.cell? ⟨wr.heap.size, 0, none⟩ = some (.int .i64 v.kind) := hrow5.cell 0
        have n2 : w5.cell? ⟨wr.heap.size, 1, none⟩ = some (.int .i64 v.int) := hrow5.cell 1
        have n3 : w5.cell? ⟨wr.heap.size, 2, none⟩ = some (.string v.str) := hrow5.cell 2
        have hlt5 := hrow5.lt
        have HI5 := Lib.hid (HI4.out.up hb5)
        have HR5 := Lib.hid (HR4.out.up hb5)
        have HCMP := Lib.hid (fun W => vCompare_any key v W)
        have HZ : Hid (RL.cmpV key v = 0 ↔ key = v) := RL.tot_cmpV.z _ _
        obtain ⟨q, hq⟩ : ∃ q, q = RL.cmpV key v := ⟨_, rfl⟩
        rw [← hq] at HCMP HZ
        clear hq hrow5 hb5 n1' n2' n3' HKY
        go_wp2_with fail
        refine (HCMP.out _).mono ?_
        rintro e w6 ⟨rfl, hx6⟩
        have hx6' : Ext w5 w6 := ((Ext.refl w5).alloc _).trans hx6
        have HB6 := Lib.hid (Below.then HB5.out hx6'.below HB5.out.size)
        have HI6 := Lib.hid (HI5.out.ext hx6')
        have HR6 := Lib.hid (HR5.out.up hx6'.below)
        clear hx6 hx6'
        by_cases hq0 : q = 0
        · have HG := Lib.hid (HN3'.out (HZ.out.1 hq0))
          subst hq0
          clear HN2' HN3' HZ
          go_wp2
          go_roundw
          case rel => exact ⟨k + 1, x3, s4, by omega, by go_num, HG.out, HI6.out, by omega, HR6.out, HB6.out⟩
          case measure => simp [intOf]; omega
        · have HK0 := Lib.hid (HN2'.out (fun e => hq0 (HZ.out.2 e)))
          have hqb : (q != 0) = true := by simpa using hq0
          clear HN2' HN3' HZ hq0
          go_wp2
          go_ret
          exact KidsPost.none HK0.out rfl HB6.out

end Go.Proofs.Ytlcammcifjihpaa
end

section
/- Plain and walk: the reference's Children of chapter 34. -/
namespace Go.Proofs.Ytlcammcifjihpaa
open Go.RowKit Go.Sort

theorem snoc_ind {α : Type} {motive : List α → Prop} (nil : motive []) (append_singleton : ∀ Q y, motive Q → motive (Q ++ [y])) (Q : List α) : motive Q := by
  have h : ∀ L : List α, motive L.reverse := fun L => by
    induction L with
    | nil => exact nil
    | cons a L ih => rw [List.reverse_cons]; exact append_singleton _ _ ih
  have := h Q.reverse
  rwa [List.reverse_reverse] at this
/-- One row more for the reference's Children. -/
def childStep (p : RL.R) (out : RL.R) (y : RL.R) : RL.R :=
  if y.length ≤ p.length ∨ y.take p.length ≠ p then out else if out = [] ∨ out.getLastD default ≠ y.getD p.length default then out ++ [y.getD p.length default] else out
def childF (p : RL.R) (Q : List RL.R) : RL.R := Q.foldl (childStep p) []
theorem childF_snoc (p : RL.R) (Q : List RL.R) (y : RL.R) : childF p (Q ++ [y]) = childStep p (childF p Q) y := by unfold childF; rw [List.foldl_append]; rfl

theorem childF_len (p : RL.R) : ∀ Q : List RL.R, (childF p Q).length ≤ Q.length := by
  intro Q
  induction Q using snoc_ind with
  | nil => simp [childF]
  | append_singleton Q y ih =>
    rw [childF_snoc]
    unfold childStep
    rw [List.length_append, List.length_singleton]
    split
    · omega
    · split
      · rw [List.length_append, List.length_singleton]; omega
      · omega

theorem childF_spec {d : Nat} (p : RL.R) (hk : p.length < d) : ∀ (Q : List RL.R), RL.SS Q → (∀ r ∈ Q, r.length = d) → (childF p Q).Pairwise (fun a b => RL.cmpV a b < 0) ∧ ∀ v, v ∈ childF p Q ↔ ∃ y ∈ Q, y.take (p.length + 1) = p ++ [v] := by
  intro Q
  induction Q using snoc_ind with
  | nil => intro _ _; simp [childF]
  | append_singleton Q y ih =>
    intro hS hd
    have hS1 : RL.SS Q := by unfold RL.SS at *; exact (List.pairwise_append.1 hS).1
    have hlt : ∀ z ∈ Q, RL.cmpR z y < 0 := fun z hz => by unfold RL.SS at hS; exact (List.pairwise_append.1 hS).2.2 z hz y (by simp)
    obtain ⟨ih1, ih2⟩ := ih hS1 (fun r hr => hd r (by simp [hr]))
    have hyl : y.length = d := hd y (by simp)
    rw [childF_snoc]
    unfold childStep
    by_cases h1 : y.length ≤ p.length ∨ y.take p.length ≠ p
    · rw [if_pos h1]
      refine ⟨ih1, fun v => ?_⟩
      rw [ih2]
      constructor
      · rintro ⟨z, hz, e⟩; exact ⟨z, by simp [hz], e⟩
      · rintro ⟨z, hz, e⟩
        rw [List.mem_append, List.mem_singleton] at hz
        rcases hz with hz | rfl
        · exact ⟨z, hz, e⟩
        · exfalso
          rcases h1 with h1 | h1
          · omega
          · apply h1
            have := congrArg (List.take p.length) e
            rw [List.take_take, Nat.min_eq_left (by omega), List.take_left] at this
            exact this
    · rw [if_neg h1]
      have h2 : y.take p.length = p := Classical.byContradiction fun h => h1 (.inr h)
      have hpy : p.length < y.length := by omega
      have hv : y.getD p.length default = y[p.length] := by rw [List.getD_eq_getElem?_getD, List.getElem?_eq_getElem hpy]; rfl
      have hyt : y.take (p.length + 1) = p ++ [y[p.length]] := by rw [List.take_succ_eq_append_getElem hpy, h2]
      rw [hv]
      have hle : ∀ u ∈ childF p Q, RL.cmpV u y[p.length] ≤ 0 := fun u hu => by
        obtain ⟨z, hz, e⟩ := (ih2 u).1 hu
        have h3 := RL.take_mono (p.length + 1) z y (by have := hlt z hz; omega)
        rw [e, hyt, RL.cmpR_append_left, RL.cmpR_one] at h3
        exact h3
      have hmem : ∀ v, (∃ z ∈ Q ++ [y], z.take (p.length + 1) = p ++ [v]) ↔ v ∈ childF p Q ∨ v = y[p.length] := fun v => by
        rw [ih2]
        constructor
        · rintro ⟨z, hz, e⟩
          rw [List.mem_append, List.mem_singleton] at hz
          rcases hz with hz | rfl
          · exact .inl ⟨z, hz, e⟩
          · right
            rw [hyt] at e
            have := List.append_cancel_left e
            simpa using this.symm
        · rintro (⟨z, hz, e⟩ | rfl)
          · exact ⟨z, by simp [hz], e⟩
          · exact ⟨y, by simp, hyt⟩
      split
      · rename_i h3
        refine ⟨?_, fun v => by rw [hmem, List.mem_append, List.mem_singleton]⟩
        rw [List.pairwise_append]
        refine ⟨ih1, by simp, fun u hu v hv2 => ?_⟩
        rw [List.mem_singleton] at hv2
        subst hv2
        rcases List.eq_nil_or_concat (childF p Q) with h4 | ⟨R, l, h4⟩
        · rw [h4] at hu; cases hu
        · rw [List.concat_eq_append] at h4
          have h5 : l ≠ y[p.length] := by
            rcases h3 with h3 | h3
            · rw [h4] at h3; simp at h3
            · rw [h4, List.getLastD_concat] at h3; exact h3
          have hl : RL.cmpV l y[p.length] < 0 := by
            have := hle l (by rw [h4]; simp)
            rcases Int.lt_or_eq_of_le this with h6 | h6
            · exact h6
            · exact absurd ((RL.tot_cmpV.z _ _).1 h6) h5
          rw [h4, List.mem_append, List.mem_singleton] at hu
          rcases hu with hu | rfl
          · rw [h4, List.pairwise_append] at ih1
            exact RL.tot_cmpV.tr _ _ _ (ih1.2.2 u hu l (by simp)) hl
          · exact hl
      · rename_i h3
        refine ⟨ih1, fun v => ?_⟩
        rw [hmem]
        have h4 : y[p.length] ∈ childF p Q := by
          have h5 : childF p Q ≠ [] := fun h => h3 (.inl h)
          have h6 : (childF p Q).getLastD default = y[p.length] := Classical.byContradiction fun h => h3 (.inr h)
          rw [← h6]
          rcases List.eq_nil_or_concat (childF p Q) with h7 | ⟨R, l, h7⟩
          · exact absurd h7 h5
          · rw [h7, List.concat_eq_append, List.getLastD_concat]; simp
        constructor
        · exact .inl
        · rintro (h | rfl)
          · exact h
          · exact h4
theorem childF_out {d : Nat} (p : RL.R) (hk : d ≤ p.length) : ∀ (Q : List RL.R), (∀ r ∈ Q, r.length = d) → childF p Q = [] := by
  intro Q
  induction Q using snoc_ind with
  | nil => intro _; rfl
  | append_singleton Q y ih =>
    intro hd
    rw [childF_snoc, ih (fun r hr => hd r (by simp [hr]))]
    unfold childStep
    rw [if_pos (.inl (by rw [hd y (by simp)]; exact hk))]
/-- The reference's Children are the values below the prefix. -/
theorem childF_eq {d : Nat} {P : List RL.R} (hS : RL.SS P) (hd : ∀ r ∈ P, r.length = d) (p : RL.R) : childF p P = RL.kids d P p := by
  by_cases hk : p.length < d
  · obtain ⟨h1, h2⟩ := childF_spec p hk P hS hd
    exact RL.asc_ext h1 (RL.kids_asc hd p) (fun v => by rw [h2, RL.mem_kids hd hk])
  · rw [childF_out p (by omega) P hd, RL.kids_out (by omega)]

/-- append of one value to a row of the call's own. -/
theorem app1VS {w : World} {ops : Array Oper} {rest : List Oper} {o : Oper} {a : Act} {Q : Exit → Act → World → Prop} (hgd : o.guard = none) (s x : Operand)
    (ho : o.op = .call { callee := .builtin .append, args := #[s, x], argTypes := #[46, 46] })
    (base : Nat) (v : Value) (l : RL.R) (hs : a.eval s = v) (hown : w.ownsRow base 38 3 v l.length (rcells l))
    (gt : Nat) (z : RL.V) (hx : a.eval x = .slice (some ⟨gt, 0, none⟩) 1 1) (h0 : w.cell? ⟨gt, 0, none⟩ = some (.int .i64 z.kind)) (h1 : w.cell? ⟨gt, 1, none⟩ = some (.int .i64 z.int)) (h2 : w.cell? ⟨gt, 2, none⟩ = some (.string z.str))
    (hn : l.length ≤ 100000000) (hbase : base ≤ w.heap.size)
    (h : ∀ v' w', w'.ownsRow base 38 3 v' (l ++ [z]).length (rcells (l ++ [z])) → w.grownBy w' v.ownBlock → wpList Try.prog ops Q rest (a.put o.dst v') w') : wpList Try.prog ops Q (o :: rest) a w := by
  obtain ⟨i0, hi0, hz0, hz1, hz2⟩ := info_parts valInfo
  refine wpList_append_own w hgd s x 46 ho base 38 i0 _ 3 32 Try.underlying46 hi0 hz0 hz1 hz2 rfl (by decide) v l.length (rcells l) hs hown ⟨gt, 0, none⟩ 1 1 (vcells z) hx rfl ?_ ?_ (by simp only [maxLen]; omega) (by omega) hbase ?_
  · intro j u hu
    match j with
    | 0 => simp [vcells] at hu; subst hu; exact h0
    | 1 => simp [vcells] at hu; subst hu; exact h1
    | 2 => simp [vcells] at hu; subst hu; exact h2
    | j + 3 => simp [vcells] at hu
  · intro u hu; simp [vcells] at hu; rcases hu with rfl | rfl | rfl <;> rfl
  · intro v' w' h1 h2 _
    refine h v' w' ?_ h2
    rw [rcells_append, List.length_append]
    have : rcells [z] = vcells z := by simp [rcells]
    rw [this]
    exact h1

end Go.Proofs.Ytlcammcifjihpaa
end

section
/- Walk: the reference's Children of chapter 34. -/
namespace Go.Proofs.Ytlcammcifjihpaa
open Go.RowKit Go.Sort

theorem childStep_skip {p out y : RL.R} (h : y.length ≤ p.length ∨ y.take p.length ≠ p) : childStep p out y = out := by unfold childStep; rw [if_pos h]
theorem childStep_new {p out y : RL.R} (h : ¬ (y.length ≤ p.length ∨ y.take p.length ≠ p)) (h2 : out = [] ∨ out.getLastD default ≠ y.getD p.length default) : childStep p out y = out ++ [y.getD p.length default] := by unfold childStep; rw [if_neg h, if_pos h2]
theorem childStep_old {p out y : RL.R} (h : ¬ (y.length ≤ p.length ∨ y.take p.length ≠ p)) (h2 : ¬ (out = [] ∨ out.getLastD default ≠ y.getD p.length default)) : childStep p out y = out := by unfold childStep; rw [if_neg h, if_neg h2]

set_option maxHeartbeats 4000000 in
set_option maxRecDepth 100000 in
theorem r34Children_any (XA PA : Option Addr) (XC PC : Nat) (X : List RL.R) (p : RL.R) (w : World) (hX : SlRs w.heap.size w XA X) (hp : SlR w.heap.size w PA p) (hXl : X.length ≤ 100000) (hpl : p.length ≤ 1000000) (hrl : ∀ x ∈ X, x.length ≤ 1000000) :
    Calls Try.prog 28 #[.slice XA X.length XC, .slice PA p.length PC] w fun e w' => ∃ v, e = .returned v ∧ w'.ownsRow w.heap.size 38 3 v (childF p X).length (rcells (childF p X)) ∧ Below w.heap.size w w' := by
  have HX := Lib.hid hX
  have HP := Lib.hid hp
  have HRL := Lib.hid hrl
  clear hX hp hrl
  go_enter Try.func28, Try.ntmps28
  go_wp2
  go_loopw [5, 6] (fun v m wr => ∃ i : Nat, i ≤ X.length ∧ m = .int .i64 i ∧ wr.ownsRow w.heap.size 38 3 v (childF p (X.take i)).length (rcells (childF p (X.take i))) ∧ Below w.heap.size w wr) (fun _ m _ => X.length - (intOf m).toNat)
  case atStart => exact ⟨0, Nat.zero_le _, rfl, own_nil _ _ _ _, Below.refl _ _⟩
  case round =>
    obtain ⟨i, hia, rfl, hown, hb⟩ := hrel
    have HO := Lib.hid hown
    have HB := Lib.hid hb
    have hzz := hb.size
    clear hown hb
    by_cases h1 : i < X.length
    rotate_left
    · obtain rfl : i = X.length := by omega
      rw [List.take_length] at HO
      go_wp2
      go_ret
      exact ⟨_, rfl, HO.out, HB.out⟩
    obtain ⟨b, o, A', C', rfl, hb1, c1, hc1, hm1, hsx⟩ := slRs_at HX.out h1
    have c1 := (HB.out.cell (p := ⟨b, o + i, none⟩) hb1).trans c1
    have HSX := Lib.hid ((SlR.below hsx HB.out (Nat.le_refl _)).more hzz)
    have hxl : X[i].length ≤ 1000000 := HRL.out _ (List.getElem_mem h1)
    have HCF : Hid (childF p (X.take (i + 1)) = childStep p (childF p (X.take i)) X[i]) := by
      show _ = _
      rw [List.take_succ_eq_append_getElem h1, childF_snoc]
    have HCL : Hid ((childF p (X.take i)).length ≤ 100000) := by
      show _ ≤ _
      have := childF_len p (X.take i)
      rw [List.length_take] at this
      omega
    have hbw : b < wr.heap.size := by omega
    generalize X[i] = y at *
    generalize childF p (X.take i) = out at *
    clear hsx
    by_cases h2 : y.length ≤ p.length
    · have HS := Lib.hid (HCF.out.trans (childStep_skip (.inl h2)))
      have h2' : decide ((y.length : Int) ≤ (p.length : Int)) = true := by simp; omega
      clear HCF
      go_wp2
      go_roundw
      case rel => exact ⟨i + 1, by omega, by go_num, by rw [HS.out]; exact HO.out, HB.out⟩
      case measure => simp [intOf]; omega
    have h2' : decide ((y.length : Int) ≤ (p.length : Int)) = false := by simp; omega
    have hpc : p.length ≤ C' := by omega
    have HTL : Hid ((y.take p.length).length = p.length) := by show _ = _; rw [List.length_take]; omega
    have HSR : Hid (Calls Try.prog 30 #[.slice A' p.length C', .slice PA p.length PC] wr fun e w' => e = .returned (.bool (decide (y.take p.length = p))) ∧ Ext wr w') := by
      have h := r3SameRows_any A' PA C' PC (y.take p.length) p wr (HSX.out.take _) ((HP.out.below HB.out (Nat.le_refl _)).more hzz) (by rw [HTL.out]; exact hpl) hpl
      rw [HTL.out] at h
      exact h
    by_cases h3 : y.take p.length = p
    rotate_left
    · have HS := Lib.hid (HCF.out.trans (childStep_skip (.inr h3)))
      have hd : decide (y.take p.length = p) = false := by simpa using h3
      rw [hd] at HSR
      clear HCF h3 hd
      go_wp2_with fail
      refine HSR.out.mono ?_
      rintro e w2 ⟨rfl, hx2⟩
      have HX2 := Lib.hid hx2
      clear hx2
      go_wp2
      go_roundw
      case rel => exact ⟨i + 1, by omega, by go_num, by rw [HS.out]; exact own_keep HO.out HX2.out.below, Below.then HB.out HX2.out.below hzz⟩
      case measure => simp [intOf]; omega
    have hd : decide (y.take p.length = p) = true := by simpa using h3
    rw [hd] at HSR
    have HNS : Hid (¬ (y.length ≤ p.length ∨ y.take p.length ≠ p)) := fun h => by
      rcases h with h | h
      · exact h2 h
      · exact h h3
    clear h3 hd
    have hpy : p.length < y.length := by omega
    obtain ⟨b3, o3, rfl, hb3, e1, e2, e3⟩ := slR_at HSX.out hpy
    have HV : Hid (y.getD p.length default = y[p.length]) := by show _ = _; rw [List.getD_eq_getElem?_getD, List.getElem?_eq_getElem hpy]; rfl
    generalize y[p.length] = v at *
    have g3 : (p.length : Int) < (y.length : Int) := by omega
    clear hpy
    go_wp2_with fail
    refine HSR.out.mono ?_
    rintro e w2 ⟨rfl, hx2⟩
    have HX2 := Lib.hid hx2
    have c1' := (hx2.cell hbw).trans c1
    have e1 := (hx2.cell hb3).trans e1
    have e2 := (hx2.cell hb3).trans e2
    have e3 := (hx2.cell hb3).trans e3
    have hz2 := hx2.size
    have HO2 := Lib.hid (own_keep HO.out hx2.below)
    obtain ⟨W3, hW3⟩ : ∃ W3, W3 = w2.alloc (.cells #[.int .i64 v.kind, .int .i64 v.int, .string v.str] 38) := ⟨_, rfl⟩
    have hx3 : Ext w2 W3 := by rw [hW3]; exact (Ext.refl w2).alloc _
    have hr3 : Row W3 w2.heap.size 38 (vcells v) := by rw [hW3]; exact Row.new w2 38 (vcells v)
    have n1 : W3.cell? ⟨w2.heap.size, 0, none⟩ = some (.int .i64 v.kind) := hr3.cell 0
    have n2 : W3.cell? ⟨w2.heap.size, 1, none⟩ = some (.int .i64 v.int) := hr3.cell 1
    have n3 : W3.cell? ⟨w2.heap.size, 2, none⟩ = some (.string v.str) := hr3.cell 2
    have HO3 := Lib.hid (own_keep HO2.out hx3.below)
    have HB3 := Lib.hid (Below.then HB.out (HX2.out.trans hx3).below hzz)
    have hz3 := hr3.lt
    obtain ⟨hol, OA, OC, hu5, hoc, hom, hosl, hob⟩ := SlR.of_own HO3.out
    have HOS := Lib.hid hosl
    subst hu5
    clear hx2 hx3 hr3 HSR hosl hob hol HO HO2 c1
    by_cases h4 : out = []
    case' pos =>
      have HS := Lib.hid (HCF.out.trans (childStep_new HNS.out (.inl h4)))
      have hn0 : ((out.length : Int) == 0) = true := by rw [h4]; rfl
      clear h4 HCF HNS
      go_wp2
      rw [← hW3]
      clear hW3
      go_quiet (fail)
      go_upto_region 8 with (fail)
    case' neg =>
      have hpos : 0 < out.length := List.length_pos_iff.2 h4
      obtain ⟨m, hm⟩ : ∃ m, out.length = m + 1 := ⟨out.length - 1, by omega⟩
      obtain ⟨b4, o4, hOA, hb4, q1, q2, q3⟩ := slR_at HOS.out (show m < out.length by omega)
      have HLA : Hid (out.getLastD default = out[m]) := by
        show _ = _
        rw [List.getLastD_eq_getLast?, List.getLast?_eq_getElem?, show out.length - 1 = m by omega, List.getElem?_eq_getElem (by omega)]
        rfl
      subst hOA
      have HM := Lib.hid hm
      have hn0 : ((out.length : Int) == 0) = false := by simp; omega
      have hw1 : IntKind.i64.wrap ((out.length : Int) - 1) = (m : Int) := by rw [IntWalk.i64_in _ (by have := HCL.out; omega)]; omega
      have hw2 : (out.length : Int) - 1 = (m : Int) := by omega
      have hml : m < out.length := by omega
      generalize out[m] = u at *
      by_cases h5 : u = v
      · have HS := Lib.hid (HCF.out.trans (childStep_old HNS.out (fun h => by
          rcases h with h | h
          · exact h4 h
          · exact h ((HLA.out.trans h5).trans HV.out.symm))))
        have hr := run_neV_t h5
        clear h4 h5 HCF HNS hm HLA
        go_wp2
        rw [← hW3]
        clear hW3
        go_quiet (fail)
        go_wp2
        go_roundw
        case rel => exact ⟨i + 1, by omega, by go_num, by rw [HS.out]; exact HO3.out, Below.drewN' HB3.out _⟩
        case measure => simp [intOf]; omega
      have HS := Lib.hid (HCF.out.trans (childStep_new HNS.out (.inr (fun h => h5 (HLA.out.symm.trans (h.trans HV.out))))))
      have hr := run_neV_f h5
      clear h4 h5 HCF HNS hm HLA hpos
      go_wp2
      rw [← hW3]
      clear hW3
      go_quiet (fail)
      go_upto_region 8 with (fail)
    all_goals
      go_wp2_with (at_builtin; refine app1VS rfl (.tmp 55) (.tmp 57) rfl w.heap.size _ out rfl (by exact HO3.out.alloc _) W3.heap.size v rfl (by exact (Row.new (W3.drewN nq) 38 (vcells v)).cell 0) (by exact (Row.new (W3.drewN nq) 38 (vcells v)).cell 1) (by exact (Row.new (W3.drewN nq) 38 (vcells v)).cell 2) (by have := HCL.out; omega) (by simp; omega) ?_)
      intro v' w5 hown5 hg5
      have hvb : ∀ j, (Value.slice _ out.length OC).ownBlock = some j → w.heap.size ≤ j := fun j hj => own_base HO3.out hj
      have HOWN5 := Lib.hid hown5
      have HB5 := Lib.hid (Below.then HB3.out (Below.undrewN (app_kept hvb (by have := HB3.out.size; exact this) hg5)) (Nat.le_refl _))
      clear hown5 hg5 hvb
      go_wp2
      go_roundw
      case rel => exact ⟨i + 1, by omega, by go_num, by rw [HS.out, HV.out, List.length_append]; exact HOWN5.out, HB5.out⟩
      case measure => simp [intOf]; omega

end Go.Proofs.Ytlcammcifjihpaa
end

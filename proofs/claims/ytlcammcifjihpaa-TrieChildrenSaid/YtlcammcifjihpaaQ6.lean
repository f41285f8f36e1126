/- Parts of the proof, merged: K5, K6, K7, U5. -/
import Derived.Test.YtlcammcifjihpaaQ3
import Derived.Test.YtlcammcifjihpaaQ5
import Derived.Deep.DeepCutAuto

section
/- Walk: the reference's Project of chapter 34. -/
namespace Go.Proofs.Ytlcammcifjihpaa
open Go.RowKit Go.Sort

/-- A store into a row of the call's own. -/
theorem own_set {w : World} {base : Nat} {e : TypeId} {g n cap : Nat} {xs : List Value} (h : w.ownsRow base e 1 (.slice (some ⟨g, 0, none⟩) n cap) n xs) {i : Nat} (_hi : i < n) (u : Value) :
    (w.setCell ⟨g, i, none⟩ u).ownsRow base e 1 (.slice (some ⟨g, 0, none⟩) n cap) n (xs.set i u) := by
  obtain ⟨h0, h1⟩ := h
  refine ⟨by simpa using h0, ?_⟩
  rcases h1 with ⟨h1, _⟩ | ⟨g', cap', cur, h1, h2, h3, h4, h5, h6, h7⟩
  · injection h1 with h1; cases h1
  · injection h1 with h1 h1b h1c
    injection h1 with h1
    injection h1 with h1 _ _
    subst h1 h1c
    refine .inr ⟨g, cap, cur.setIfInBounds i u, rfl, h2, ?_, h4, h5, by simpa using h6, ?_⟩
    · simp [World.setCell, Array.getElem?_modify, h3]
    · rw [← h7, Array.toList_setIfInBounds, List.take_set]
theorem own_cell {w : World} {base : Nat} {e : TypeId} {g n cap : Nat} {xs : List Value} (h : w.ownsRow base e 1 (.slice (some ⟨g, 0, none⟩) n cap) n xs) {i : Nat} {u : Value} (hu : xs[i]? = some u) : w.cell? ⟨g, i, none⟩ = some u := by
  obtain ⟨A, C, e1, _, _, hs⟩ := Sl.of_own h
  injection e1 with e1 _ _
  subst e1
  obtain ⟨b, o, e2, _, hc⟩ := hs (by intro h0; rw [h0] at hu; simp at hu)
  injection e2 with e2
  injection e2 with e2 e3 _
  subst e2 e3
  have := hc i u hu
  rwa [Nat.zero_add] at this

theorem grownBelow {w w' : World} {row : Option Nat} {B : Nat} (h : w.grownBy w' row) (hv : ∀ j, row = some j → B ≤ j) (hB : B ≤ w.heap.size := by simp; omega) : Below B w w' := ⟨h.os, h.tape, h.output, h.size, fun b hb => h.block b (by omega) (fun e => by have := hv b e.symm; omega)⟩
/-- One step of the shift. -/
theorem shift_step {hs : List Value} {k : Nat} (hk : k + 1 ≤ hs.length) (u : Value) : (hs.take (k + 1) ++ u :: hs.drop (k + 1)).set (k + 1) (hs[k]'(by omega)) = hs.take k ++ (hs[k]'(by omega)) :: hs.drop k := by
  rw [List.set_append_right _ _ (by simp; omega)]
  have e : k + 1 - (hs.take (k + 1)).length = 0 := by simp; omega
  rw [e, List.set_cons_zero, List.take_succ_eq_append_getElem (by omega), List.append_assoc]
  congr 1
  rw [List.drop_eq_getElem_cons (i := k) (by omega)]
  rfl
theorem shift_last {hs : List Value} {k : Nat} (hk : k ≤ hs.length) (u r : Value) : (hs.take k ++ u :: hs.drop k).set k r = hs.take k ++ r :: hs.drop k := by
  rw [List.set_append_right _ _ (by simp; omega)]
  have e : k - (hs.take k).length = 0 := by simp; omega
  rw [e, List.set_cons_zero]
theorem shift_get {hs : List Value} {k : Nat} (hk : k + 1 ≤ hs.length) (u : Value) : (hs.take (k + 1) ++ u :: hs.drop (k + 1))[k]? = some (hs[k]'(by omega)) := by
  rw [List.getElem?_append_left (by simp; omega), List.getElem?_take_of_lt (by omega), List.getElem?_eq_getElem (by omega)]

theorem shift_at {hs : List Value} {k : Nat} (hk : k + 1 ≤ hs.length) (u : Value) : (hs.take (k + 1) ++ u :: hs.drop (k + 1))[k + 1]? = some u := by
  rw [List.getElem?_append_right (by simp; omega)]
  have e : k + 1 - (hs.take (k + 1)).length = 0 := by simp; omega
  rw [e, List.getElem?_cons_zero]
theorem shift_at' {hs : List Value} {k : Nat} (hk : k ≤ hs.length) (u : Value) : (hs.take k ++ u :: hs.drop k)[k]? = some u := by
  rw [List.getElem?_append_right (by simp; omega)]
  have e : k - (hs.take k).length = 0 := by simp; omega
  rw [e, List.getElem?_cons_zero]
theorem own_frz {w : World} {base : Nat} {e : TypeId} {g n cap : Nat} {xs : List Value} (h : w.ownsRow base e 1 (.slice (some ⟨g, 0, none⟩) n cap) n xs) (i : Nat) : w.frozen? ⟨g, i, none⟩ = false := by
  rcases h.2 with ⟨h1, _⟩ | ⟨g', cap', cur, h1, h2, h3, _⟩
  · injection h1 with h1; cases h1
  · injection h1 with h1
    injection h1 with h1
    injection h1 with h1 _ _
    subst h1
    simp [World.frozen?, h3]
theorem own_some {w : World} {base : Nat} {e : TypeId} {v : Value} {n : Nat} {xs : List Value} (h : w.ownsRow base e 1 v (n + 1) xs) : ∃ g cap, v = .slice (some ⟨g, 0, none⟩) (n + 1) cap ∧ base ≤ g ∧ g < w.heap.size := by
  rcases h.2 with ⟨_, h0⟩ | ⟨g, cap, cur, g1, g2, g3, g4⟩
  · omega
  · exact ⟨g, cap, g1, g2, own_lt h g (by rw [g1]; rfl)⟩
theorem hdrs_app {w w6 : World} {v : Value} {L : List RL.R} {hs : List Value} {g l C : Nat} (q2 : ∀ i (h : i < L.length), ∃ A' C', hs[i]? = some (.slice A' L[i].length C') ∧ L[i].length ≤ C' ∧ C' ≤ 9223372036854775807 ∧ SlR w.heap.size w A' L[i] ∧ (L[i] ≠ [] → ∀ ad, A' = some ad → v.ownBlock ≠ some ad.block)) (hl : hs.length = L.length) (hg : w.grownBy w6 v.ownBlock) (hat : (Value.slice (some ⟨g, 0, none⟩) l C).ownBlock = v.ownBlock ∨ (Value.slice (some ⟨g, 0, none⟩) l C).ownBlock = some w.heap.size) : Hdrs (fun b => b ≠ g) w6.heap.size w6 hs L := by
  refine ⟨hl, fun i u y hu hy => ?_⟩
  have hi := (List.getElem?_eq_some_iff.1 hy).1
  obtain ⟨A', C', k1, k2, k3, k4, k5⟩ := q2 i hi
  have hyy : L[i] = y := (List.getElem?_eq_some_iff.1 hy).2
  rw [hyy] at k1 k2 k4 k5
  rw [k1] at hu
  injection hu with hu
  refine ⟨A', C', hu.symm, k2, k3, k4.grown hg k5, fun hne ad e e2 => ?_⟩
  rcases hat with h | h
  · exact k5 hne ad e (by rw [← h]; exact congrArg some e2.symm)
  · simp only [Value.ownBlock, Option.some.injEq] at h
    have := k4.ltB hne ad e
    omega
/-- Headers that read as rows, none of which lies in the block of the headers. -/
theorem own_hdrs {w : World} {B : Nat} {E : TypeId} {g n cap : Nat} {hs : List Value} {Y : List RL.R} (h : w.ownsRow B E 1 (.slice (some ⟨g, 0, none⟩) n cap) n hs) (hd : Hdrs (fun b => b ≠ g) w.heap.size w hs Y) (hn : n = Y.length) : OwnRs w B E (.slice (some ⟨g, 0, none⟩) n cap) Y := by
  subst hn
  refine ⟨hs, h, fun i hi => ?_⟩
  obtain ⟨A', C', h1, h2, h3, h4, h5⟩ := hd.at_ hi
  exact ⟨A', C', h1, h2, h3, h4, fun hy ad e e2 => h5 hy ad e (by injection e2 with e2; exact e2.symm)⟩
theorem hdrs_of_own {w : World} {B : Nat} {E : TypeId} {v : Value} {X : List RL.R} (h : OwnRs w B E v X) (hX : X ≠ []) : ∃ g cap hs, v = .slice (some ⟨g, 0, none⟩) X.length cap ∧ w.ownsRow B E 1 (.slice (some ⟨g, 0, none⟩) X.length cap) X.length hs ∧ Hdrs (fun b => b ≠ g) w.heap.size w hs X ∧ B ≤ g ∧ g < w.heap.size := by
  obtain ⟨hs, h1, h2⟩ := h
  have hl : hs.length = X.length := by have := h1.1; omega
  rcases h1.2 with ⟨g1, g0⟩ | ⟨g, cap, cur, g1, g2, g3, g4⟩
  · exact absurd (List.eq_nil_of_length_eq_zero g0) hX
  · have hlt : g < w.heap.size := own_lt h1 g (by rw [g1]; rfl)
    refine ⟨g, cap, hs, g1, by rw [← g1]; exact h1, ⟨hl, fun i u y hu hy => ?_⟩, g2, hlt⟩
    have hi := (List.getElem?_eq_some_iff.1 hy).1
    obtain ⟨A', C', k1, k2, k3, k4, k5⟩ := h2 i hi
    have hyy : X[i] = y := (List.getElem?_eq_some_iff.1 hy).2
    rw [hyy] at k1 k2 k4 k5
    rw [k1] at hu
    injection hu with hu
    exact ⟨A', C', hu.symm, k2, k3, k4, fun hne ad e e2 => k5 hne ad e (by rw [g1]; exact congrArg some e2.symm)⟩
/-- append of one value, laid in a block of its own, to a row of the call's own, at a step of a region that draws its order. -/
theorem stepVR {w : World} {ops : Array Oper} {o : Oper} {a : Act} {K : Act → World → Prop} {Q : Exit → Act → World → Prop} {E : Prop} (hgd : o.guard = none) (s x : Operand)
    (ho : o.op = .call { callee := .builtin .append, args := #[s, x], argTypes := #[47, 47] })
    (base : Nat) (v : Value) (l : RL.R) (hs : a.eval s = v) (hown : w.ownsRow base 38 3 v l.length (rcells l))
    (gt : Nat) (z : RL.V) (hx : a.eval x = .slice (some ⟨gt, 0, none⟩) 1 1) (hg : Row w gt 38 (vcells z))
    (hn : l.length ≤ 1000000) (hbase : base ≤ w.heap.size)
    (h : ∀ g cap w', w'.ownsRow base 38 3 (.slice (some ⟨g, 0, none⟩) (l.length + 1) cap) (l.length + 1) (rcells (l ++ [z])) → w.grownBy w' v.ownBlock → (v.ownBlock = some g ∨ g = w.heap.size) → K (a.put o.dst (.slice (some ⟨g, 0, none⟩) (l.length + 1) cap)) w') :
    if Region.wanted o (yielded ops a.tmps) = true then Oper.wp Try.prog o a w K Q else E := by
  obtain ⟨i0, hi0, hz0, hz1, hz2⟩ := info_parts valInfo
  refine step_append_lies w hgd s x 47 ho base 38 i0 _ 3 32 Try.underlying47 hi0 hz0 hz1 hz2 rfl (by decide) v l.length (rcells l) hs hown ⟨gt, 0, none⟩ 1 1 (vcells z) hx rfl ?_ ?_ (by decide) (by simp only [maxLen]; omega) (by omega) hbase w.heap.size rfl ?_
  · intro j u hu
    have := hg.cell j
    rw [hu] at this
    rw [Addr.add_lit, Nat.zero_add]
    exact this
  · intro u hu; simp [vcells] at hu; rcases hu with rfl | rfl | rfl <;> rfl
  · intro g cap w' k1 k2 k3 _
    refine h g cap w' ?_ k2 k3
    rw [rcells_append]
    have : rcells [z] = vcells z := by simp [rcells]
    rw [this]
    exact k1

set_option maxHeartbeats 8000000 in
set_option maxRecDepth 100000 in
theorem r34Project_any (n : Nat) (XA CA : Option Addr) (XC CC : Nat) (X : List RL.R) (cs : List Int) (w : World) (hX : SlRs w.heap.size w XA X) (hcs : SlI .i64 w.heap.size w CA cs) (hXl : X.length ≤ 60000) (hcl : cs.length ≤ 1000) (hlen : ∀ x ∈ X, x.length = n) (hok : ∀ c ∈ cs, 0 ≤ c ∧ c < (n : Int)) (_hn : n ≤ 1000) :
    Calls Try.prog 26 #[.slice XA X.length XC, .slice CA cs.length CC] w fun e w' => ∃ v, e = .returned v ∧ OwnRs w' w.heap.size 47 v (RL.ofF (X.map (projF · cs))) ∧ Below w.heap.size w w' := by
  have HX := Lib.hid hX
  have HCS := Lib.hid hcs
  have HLEN := Lib.hid hlen
  have HOK := Lib.hid hok
  clear hX hcs hlen hok
  go_enter Try.func26, Try.ntmps26
  go_wp2
  go_loopw [5, 6] (fun v m wr => ∃ i : Nat, i ≤ X.length ∧ m = .int .i64 i ∧ OwnRs wr w.heap.size 47 v (RL.ofF ((X.take i).map (projF · cs))) ∧ Below w.heap.size w wr) (fun _ m _ => X.length - (intOf m).toNat)
  case atStart => exact ⟨0, Nat.zero_le _, rfl, OwnRs.nil _ _ _, Below.refl _ _⟩
  case round =>
    obtain ⟨i, hia, rfl, hown, hb⟩ := hrel
    have HO := Lib.hid hown
    have HB := Lib.hid hb
    have hzz := hb.size
    clear hown hb
    by_cases h1 : i < X.length
    rotate_left
    · obtain rfl : i = X.length := by omega
      rw [List.take_length] at HO
      go_wp2
      go_ret
      exact ⟨_, rfl, HO.out, HB.out⟩
    obtain ⟨wo, hwo⟩ : ∃ wo, wo = wr := ⟨_, rfl⟩
    subst hwo
    obtain ⟨b, o, A', C', rfl, hb1, c1, hc1, hm1, hsx⟩ := slRs_at HX.out h1
    have c1 := (HB.out.cell (p := ⟨b, o + i, none⟩) hb1).trans c1
    have HSX := Lib.hid (SlR.below hsx HB.out (Nat.le_refl _))
    have hxn : X[i].length = n := HLEN.out _ (List.getElem_mem h1)
    have hbw : b < wo.heap.size := by omega
    have HOF : Hid (RL.ofF ((X.take (i + 1)).map (projF · cs)) = RL.insF (RL.ofF ((X.take i).map (projF · cs))) (projF X[i] cs)) := by
      show _ = _
      rw [List.take_succ_eq_append_getElem h1, List.map_append]
      exact RL.ofF_append _ _
    have HLL : Hid ((RL.ofF ((X.take i).map (projF · cs))).length ≤ 60000) := by
      show _ ≤ _
      have := RL.ofF_length_le ((X.take i).map (projF · cs))
      rw [List.length_map, List.length_take] at this
      omega
    have HSS := Lib.hid (RL.SS.of ((X.take i).map (projF · cs)))
    have HLD : Hid (∀ y ∈ RL.ofF ((X.take i).map (projF · cs)), y.length = cs.length) := fun y hy => by
      obtain ⟨z, _, rfl⟩ := List.mem_map.1 ((RL.mem_ofF _ _).1 hy)
      exact projF_length z cs
    have HXN := Lib.hid hxn
    generalize X[i] = x at *
    have hx1 : x.length ≤ n := by omega
    have hx2 : n ≤ x.length := by omega
    generalize RL.ofF ((X.take i).map (projF · cs)) = L at *
    clear hsx hxn
    go_wp2
    go_loopw [7, 8] (fun v m wr => ∃ k : Nat, k ≤ cs.length ∧ m = .int .i64 k ∧ wr.ownsRow wo.heap.size 38 3 v k (rcells ((projF x cs).take k)) ∧ Below wo.heap.size wo wr) (fun _ m _ => cs.length - (intOf m).toNat)
    case atStart => exact ⟨0, Nat.zero_le _, rfl, own_nil _ _ _ _, Below.refl _ _⟩
    case round =>
      obtain ⟨k, hka, rfl, hown, hb⟩ := hrel
      have HOW := Lib.hid hown
      have HB2 := Lib.hid hb
      have hz2 := hb.size
      clear hown hb
      by_cases h2 : k < cs.length
      rotate_left
      · obtain rfl : k = cs.length := by omega
        rw [show (projF x cs).take cs.length = projF x cs from by rw [← projF_length x cs, List.take_length]] at HOW
        obtain ⟨hkl, RA, RC, hu7, hrc, hrm, hrs, hrb⟩ := SlR.of_own HOW.out
        have HRS := Lib.hid hrs
        have HRB := Lib.hid hrb
        have HRL : Hid ((projF x cs).length = cs.length) := projF_length x cs
        have hrl : (projF x cs).length ≤ 1000 := by rw [projF_length]; omega
        generalize hrr : projF x cs = r at *
        clear hrr hkl hrs hrb HOW
        subst hu7
        have hown := HO.out.keep HB2.out
        have HBW := Lib.hid (Below.then HB.out HB2.out hzz)
        have HO2 := Lib.hid hown
        obtain ⟨OA, OC, hu5, hoc, hom, hosl⟩ := hown.sl
        have HOS := Lib.hid hosl
        have HOB : Hid (∀ jj, u5.ownBlock = some jj → jj < wo.heap.size) := by obtain ⟨hs, q1, _⟩ := HO.out; exact own_lt q1
        clear hown hosl HO HB HB2 c1
        subst hu5
        have hLl := HLL.out
        obtain ⟨wq, hwq⟩ : ∃ wq, wq = wr := ⟨_, rfl⟩
        subst hwq
        have hrkl := RL.rank_le L r
        obtain ⟨hs1, hs2⟩ := RL.rank_split HSS.out r
        have HS1 := Lib.hid hs1
        have HS2 := Lib.hid hs2
        have HMR := Lib.hid (RL.mem_iff_rank HSS.out r)
        have HIN : Hid (RL.insF L r = if r ∈ L then L else L.take (RL.rank L r) ++ r :: L.drop (RL.rank L r)) := rfl
        clear hs1 hs2
        generalize RL.rank L r = rk at *
        have HCR : Hid (∀ (j : Nat) (hj : j < L.length) (W : World), Ext wq W → ∃ b o A'' C'', OA = some ⟨b, o, none⟩ ∧ b < wq.heap.size ∧ W.cell? ⟨b, o + j, none⟩ = some (.slice A'' L[j].length C'') ∧ ∀ W', Ext W W' → Calls Try.prog 45 #[.slice A'' L[j].length C'', .slice RA r.length RC, .slice none 0 0] W' fun e w' => e = .returned (.int .i64 (RL.cmpR L[j] r)) ∧ Ext W' w') := fun j hj W hx => by
          obtain ⟨b, o, A'', C'', e1, e2, e3, e4, e5, e6⟩ := slRs_at HOS.out hj
          have hlen : L[j].length = cs.length := HLD.out _ (List.getElem_mem hj)
          refine ⟨b, o, A'', C'', e1, e2, (hx.cell e2).trans e3, fun W' hx' => ?_⟩
          have hxx := hx.trans hx'
          exact r3CompareRows_any A'' RA C'' RC L[j] r W' ((e6.ext (Nat.le_refl _) hxx).more hxx.size) ((HRS.out.ext (Nat.le_refl _) hxx).more hxx.size) (by omega) (by omega)
        go_wp2
        go_loopw [9] (fun a wr => ∃ j : Nat, j ≤ rk ∧ a = .int .i64 j ∧ Ext wq wr) (fun a _ => rk - (intOf a).toNat)
        case atStart => exact ⟨0, Nat.zero_le _, rfl, Ext.refl _⟩
        case round =>
          obtain ⟨j, hjr, rfl, hx⟩ := hrel
          have HXX := Lib.hid hx
          have hzx := hx.size
          clear hx
          by_cases h3 : j < rk
          · obtain ⟨b4, o4, A4, C4, hOA, hb4, d1, hcall⟩ := HCR.out j (by omega) wr HXX.out
            subst hOA
            have hneg := HS1.out j (by omega) h3
            have HC := Lib.hid hcall
            have hjL : (j : Int) < (L.length : Int) := by omega
            have hjL2 : j < L.length := by omega
            generalize L[j] = y at *
            generalize RL.cmpR y r = q at *
            clear hcall
            go_wp2_with fail
            refine (HC.out wr (Ext.refl _)).mono ?_
            rintro e w2 ⟨rfl, hx2⟩
            have HX2 := Lib.hid (HXX.out.trans hx2)
            have hq : decide (q < 0) = true := by simpa using hneg
            clear hx2 HC
            go_wp2
            go_roundw
            case rel => exact ⟨j + 1, by omega, by go_num, HX2.out⟩
            case measure => simp [intOf]; omega
          · obtain rfl : j = rk := by omega
            by_cases hB : j < L.length
            case' pos =>
              obtain ⟨b4, o4, A4, C4, hOA, hb4, d1, hcall⟩ := HCR.out j hB wr HXX.out
              have hge := HS2.out j hB (Nat.le_refl _)
              have HC := Lib.hid hcall
              have hjL : (j : Int) < (L.length : Int) := by omega
              have HZ : Hid (RL.cmpR L[j] r = 0 ↔ L[j] = r) := RL.tot_cmpR.z _ _
              have HM2 : Hid (r ∈ L ↔ L[j] = r) := HMR.out.trans ⟨fun h => h.2, fun h => ⟨hB, h⟩⟩
              have HDC : Hid (∀ W, Ext wr W → W.cell? ⟨b4, o4 + j, none⟩ = some (.slice A4 L[j].length C4)) := fun W hW => (hW.cell (by omega)).trans d1
              generalize L[j] = y at *
              subst hOA
              generalize RL.cmpR y r = q at *
              clear hcall
              go_wp2_with fail
              refine (HC.out wr (Ext.refl _)).mono ?_
              rintro e w2 ⟨rfl, hx2⟩
              have HX2 := Lib.hid hx2
              have hq : decide (q < 0) = false := by simpa using hge
              have d2 := HDC.out w2 hx2
              clear hx2
              go_wp2_with fail
              refine (HC.out w2 HX2.out).mono ?_
              rintro e w5 ⟨rfl, hx5⟩
              have HX5 := Lib.hid ((HXX.out.trans HX2.out).trans hx5)
              clear hx5 HC d1 d2 HX2 HDC
              by_cases hq0 : q = 0
              · have hin : r ∈ L := HM2.out.2 (HZ.out.1 hq0)
                have HI2 := Lib.hid (HIN.out.trans (if_pos hin))
                have hqb : (q == 0) = true := by simpa using hq0
                clear hin hq0
                go_wp2
                go_roundw
                case rel => exact ⟨i + 1, by omega, by go_num, by rw [HOF.out, HI2.out]; exact HO2.out.keep HX5.out.below, Below.then HBW.out HX5.out.below HBW.out.size⟩
                case measure => simp [intOf]; omega
              have hnin : ¬ r ∈ L := fun h => hq0 (HZ.out.2 (HM2.out.1 h))
              have HI2 := Lib.hid (HIN.out.trans (if_neg hnin))
              have hqb : (q == 0) = false := by simpa using hq0
              clear hnin hq0 hge hjL HZ HM2 hB hb4
              have HOL := Lib.hid (HO2.out.keep HX5.out.below)
              have hz5 := HX5.out.size
              clear HXX HO2
              go_upto_region 14 with (fail)
            case' neg =>
              have hjL : ¬ (j : Int) < (L.length : Int) := by omega
              have hnin : ¬ r ∈ L := fun h => by obtain ⟨h1, _⟩ := HMR.out.1 h; omega
              have HI2 := Lib.hid (HIN.out.trans (if_neg hnin))
              obtain ⟨w5, hw5⟩ : ∃ w5, w5 = wr := ⟨_, rfl⟩
              subst hw5
              have HX5 := Lib.hid HXX.out
              clear hnin hB
              have HOL := Lib.hid (HO2.out.keep HX5.out.below)
              have hz5 := HX5.out.size
              clear HXX HO2
              go_upto_region 14 with (fail)
              clear hjL
            all_goals
              have hO6 := HOL.out.keep ((Below.refl w5.heap.size w5).alloc (Nat.le_refl _) (.cells #[.slice none 0 0] 47))
              obtain ⟨hs, q1, q2⟩ := hO6
              have HQ1 := Lib.hid q1
              have HQ2 := Lib.hid q2
              have HHL : Hid (hs.length = L.length) := by have := q1.1; show _ = _; omega
              have hwq5 := HBW.out.size
              clear q1 q2
              go_wp2_with (at_builtin; refine appH1 rfl (.tmp 64) (.tmp 65) rfl w.heap.size _ L.length hs rfl HQ1.out w5.heap.size (.slice none 0 0) rfl (by go_simp) rfl (by omega) (by simp; omega) ?_)
              intro v6 w6 hown6 hg6 hat6
              have hvb := HOL.out.base
              have HB6 := Lib.hid (Below.then HBW.out (Below.then (HX5.out.below.mono hwq5) (app_kept hvb (by omega) hg6) (Nat.le_refl _)) (Nat.le_refl _))
              have hrne : r ≠ [] → ∀ ad, RA = some ad → ad.block < wq.heap.size := HRS.out.ltB
              have hrov : r ≠ [] → ∀ ad, RA = some ad → (Value.slice _ L.length OC).ownBlock ≠ some ad.block := fun hr ad e e2 => by
                have h1 := HRB.out ad e
                have h2 := HOB.out _ e2
                omega
              obtain ⟨g, cap, rfl, hbg, hgl⟩ := own_some hown6
              have hge6 : wq.heap.size ≤ w6.heap.size := by have := hg6.size; simp at this; omega
              have HHD := Lib.hid (hdrs_app HQ2.out HHL.out hg6 (by rw [World.size_alloc]; exact hat6))
              have HR6 := Lib.hid ((SlR.up HRS.out (HX5.out.alloc (.cells #[.slice none 0 0] 47))).grown hg6 hrov)
              have hrap : r ≠ [] → ∀ ad, RA = some ad → ad.block ≠ g := fun hr ad e e2 => by
                rcases hat6 with h3 | h3
                · exact hrov hr ad e (by rw [← h3]; exact congrArg some e2.symm)
                · have := hrne hr ad e
                  simp only [Value.ownBlock, Option.some.injEq] at h3
                  omega
              have HRP := Lib.hid hrap
              have how0 : ∃ A6 l6 C6, w6.ownsRow w.heap.size 47 1 (.slice (some ⟨g, 0, none⟩) (L.length + 1) cap) (L.length + 1) (hs.take L.length ++ (.slice A6 l6 C6) :: hs.drop L.length) := by
                refine ⟨none, 0, 0, ?_⟩
                rw [List.take_of_length_le (by have := HHL.out; omega), List.drop_of_length_le (by have := HHL.out; omega)]
                exact hown6
              have HOW0 := Lib.hid how0
              have hhl1 : hs.length ≤ L.length := Nat.le_of_eq HHL.out
              have hhl2 : L.length ≤ hs.length := Nat.le_of_eq HHL.out.symm
              clear hown6 hg6 hat6 hvb hrne hrov how0 hrap HQ1 HQ2 HOL HRS HRB
              have hw1 : IntKind.i64.wrap ((L.length : Int) + 1 - 1) = (L.length : Int) := by rw [IntWalk.i64_in _ (by omega)]; omega
              have hw2 : (L.length : Int) + 1 - 1 = (L.length : Int) := by omega
              go_wp2
              go_loopw [10] (fun a wr => ∃ k : Nat, j ≤ k ∧ k ≤ L.length ∧ a = .int .i64 k ∧ (∃ A6 l6 C6, wr.ownsRow w.heap.size 47 1 (.slice (some ⟨g, 0, none⟩) (L.length + 1) cap) (L.length + 1) (hs.take k ++ (.slice A6 l6 C6) :: hs.drop k)) ∧ w6.grownBy wr (some g) ∧ w6.heap.size ≤ wr.heap.size) (fun a _ => (intOf a).toNat)
              case atStart => exact ⟨L.length, by omega, Nat.le_refl _, rfl, HOW0.out, ⟨rfl, rfl, rfl, Nat.le_refl _, fun _ _ _ => rfl⟩, Nat.le_refl _⟩
              case round =>
                obtain ⟨k, hjk, hkL, rfl, ⟨A6, l6, C6, how⟩, hgr, hzg⟩ := hrel
                have HOWK := Lib.hid how
                have HGR := Lib.hid hgr
                clear how hgr
                by_cases h5 : j < k
                · obtain ⟨k', rfl⟩ : ∃ k', k = k' + 1 := ⟨k - 1, by omega⟩
                  have hk' : k' + 1 ≤ hs.length := by omega
                  have c1 := own_cell HOWK.out (shift_get hk' (.slice A6 l6 C6))
                  have HST := Lib.hid (shift_step hk' (.slice A6 l6 C6))
                  have hs2 := own_set HOWK.out (show k' + 1 < L.length + 1 by omega) (hs[k']'(by omega))
                  rw [HST.out] at hs2
                  have hf := own_frz HOWK.out (k' + 1)
                  have c2 := own_cell HOWK.out (shift_at hk' (.slice A6 l6 C6))
                  obtain ⟨A7, C7, h7, -⟩ := HHD.out.at_ (show k' < L.length by omega)
                  have h7' : ∃ l7, hs[k']'(by omega) = .slice A7 l7 C7 := ⟨_, (List.getElem?_eq_some_iff.1 h7).2⟩
                  obtain ⟨l7, h7'⟩ := h7'
                  rw [h7'] at c1 hs2
                  have HS2 := Lib.hid hs2
                  have hw1 : IntKind.i64.wrap (((k' + 1 : Nat) : Int) - 1) = (k' : Int) := by rw [IntWalk.i64_in _ (by omega)]; omega
                  have hw2 : ((k' + 1 : Nat) : Int) - 1 = (k' : Int) := by omega
                  have hw3 : (k' : Int) + 1 - 1 = (k' : Int) := by omega
                  have hlt1 : (j : Int) < (k' : Int) + 1 := by omega
                  clear hs2 h7 h7'
                  go_wp2
                  go_roundw
                  case rel => exact ⟨k', by omega, by omega, by go_num, ⟨_, _, _, HS2.out⟩, grown_trans HGR.out (grown_set wr g (k' + 1) _), by simp; omega⟩
                  case measure => simp [intOf]
                · obtain rfl : k = j := by omega
                  have hs2 := own_set HOWK.out (show k < L.length + 1 by omega) (.slice RA r.length RC)
                  rw [shift_last (by omega) (.slice A6 l6 C6) (.slice RA r.length RC)] at hs2
                  have HS2 := Lib.hid hs2
                  have hf := own_frz HOWK.out k
                  have c2 := own_cell HOWK.out (shift_at' (by omega) (.slice A6 l6 C6))
                  have hlt1 : (k : Int) < (L.length : Int) + 1 := by omega
                  clear hs2
                  go_wp2
                  go_roundw
                  case rel =>
                    have hgt := grown_trans HGR.out (grown_set wr g k (.slice RA r.length RC))
                    refine ⟨i + 1, by omega, by go_num, ?_, Below.then HB6.out (below_of_grown hgt (by omega : w.heap.size ≤ g) HB6.out.size) (Nat.le_refl _)⟩
                    rw [HOF.out, HI2.out]
                    have hh : Hdrs (fun b => b ≠ g) w6.heap.size w6 (hs.take k ++ (Value.slice RA r.length RC) :: hs.drop k) (L.take k ++ r :: L.drop k) := by
                      have h1 := (HHD.out.take k).append ((Hdrs.one (P := fun b => b ≠ g) (B := w6.heap.size) (w := w6) (u := .slice RA r.length RC) (y := r) ⟨RA, RC, rfl, hrc, hrm, HR6.out, HRP.out⟩).append (HHD.out.drop k))
                      exact h1
                    have hh2 := (hh.keep (w' := wr.setCell ⟨g, k, none⟩ (.slice RA r.length RC)) (fun p hp hne => World.cell?_of_block (hgt.block p.block hp (fun e => hne (by injection e))))).more hgt.size
                    have hlen : (L.take k ++ r :: L.drop k).length = L.length + 1 := by simp; omega
                    exact own_hdrs HS2.out hh2 hlen.symm
                  case measure => simp [intOf]; omega
      obtain ⟨b2, o2, hCA, hb2, d1⟩ := slI_at HCS.out h2
      subst hCA
      obtain ⟨hk0, hkn⟩ := HOK.out _ (List.getElem_mem h2)
      have hPT : (projF x cs).take (k + 1) = (projF x cs).take k ++ [x.getD (cs[k]).toNat zV] := by
        have hk' : k < (projF x cs).length := by rw [projF_length]; exact h2
        rw [List.take_succ_eq_append_getElem hk']
        have e : (projF x cs)[k] = x.getD (cs[k]).toNat zV := by simp [projF]
        rw [e]
      have HPT := Lib.hid hPT
      generalize cs[k] = c at *
      obtain ⟨q, hq⟩ : ∃ q : Nat, c = (q : Int) := ⟨c.toNat, by omega⟩
      subst hq
      rw [Int.toNat_natCast] at HPT
      have hqx : q < x.length := by omega
      obtain ⟨b3, o3, rfl, hb3, e1, e2, e3⟩ := slR_at HSX.out hqx
      have hgd : x.getD q zV = x[q] := by rw [List.getD_eq_getElem?_getD, List.getElem?_eq_getElem hqx]; rfl
      rw [hgd] at HPT
      generalize x[q] = u at *
      have c1' := (HB2.out.cell (p := ⟨b, o + i, none⟩) hbw).trans c1
      have d1 := ((Below.then HB.out HB2.out hzz).cell (p := ⟨b2, o2 + k, none⟩) hb2).trans d1
      have e1 := (HB2.out.cell (p := ⟨b3, o3 + q * 3, none⟩) (by show b3 < _; omega)).trans e1
      have e2 := (HB2.out.cell (p := ⟨b3, o3 + q * 3 + 1, none⟩) (by show b3 < _; omega)).trans e2
      have e3 := (HB2.out.cell (p := ⟨b3, o3 + q * 3 + 2, none⟩) (by show b3 < _; omega)).trans e3
      have hbr : b < wr.heap.size := by omega
      have hb2r : b2 < wr.heap.size := by omega
      have hb3r : b3 < wr.heap.size := by omega
      have g1 : (i : Int) < (X.length : Int) := by omega
      have g2 : (k : Int) < (cs.length : Int) := by omega
      have g3 : (q : Int) < (x.length : Int) := by omega
      clear hPT hgd hk0 hkn
      have HTL : Hid (((projF x cs).take k).length = k) := by show _ = _; rw [List.length_take, projF_length]; omega
      generalize (projF x cs).take k = Lk at *
      have HV7 : Hid (∀ j, u7.ownBlock = some j → wo.heap.size ≤ j) := fun j hj => own_base HOW.out hj
      go_wp2
      refine wp_region_held_drew (S := (fun w' => w'.cell? ⟨b, o + i, none⟩ = some (.slice (some ⟨b3, o3, none⟩) x.length C') ∧ w'.cell? ⟨b2, o2 + k, none⟩ = some (.int .i64 q) ∧ w'.cell? ⟨b3, o3 + q * 3, none⟩ = some (.int .i64 u.kind) ∧ w'.cell? ⟨b3, o3 + q * 3 + 1, none⟩ = some (.int .i64 u.int) ∧ w'.cell? ⟨b3, o3 + q * 3 + 2, none⟩ = some (.string u.str))) (by kernel_rfl) ⟨c1', d1, e1, e2, e3⟩ (fun hHeld => ?_)
      refine takeOp (i := 0) (v := ?_) (some 23) rfl rfl (by kernel_rfl) (by kernel_rfl) (by kernel_rfl) (fun _ _ _ h => h) (Or.inl ⟨by rfl, ?_⟩) (by assumption) ?_
      rotate_left 1
      · (intro w0 hSw; (try dsimp only at hSw); go_simp; try (with_reducible rfl))
      try simp only [Act.put]
      try simp only [List.setIfInBounds_toArray]
      try simp only [List.set_cons_succ]
      try simp only [List.set_cons_zero]
      refine takeOp (i := 1) (v := ?_) (some 24) rfl rfl (by kernel_rfl) (by kernel_rfl) (by kernel_rfl) (fun _ _ _ h => h) (Or.inl ⟨by rfl, ?_⟩) (by assumption) ?_
      rotate_left 1
      · (intro w0 hSw; (try dsimp only at hSw); go_simp; try (with_reducible rfl))
      try simp only [Act.put]
      try simp only [List.setIfInBounds_toArray]
      try simp only [List.set_cons_succ]
      try simp only [List.set_cons_zero]
      refine takeOp (i := 2) (v := ?_) (some 25) rfl rfl (by kernel_rfl) (by kernel_rfl) (by kernel_rfl) (fun _ _ _ h => h) (Or.inl ⟨by rfl, ?_⟩) (by assumption) ?_
      rotate_left 1
      · (intro w0 hSw; (try dsimp only at hSw); go_simp; try (with_reducible rfl))
      try simp only [Act.put]
      try simp only [List.setIfInBounds_toArray]
      try simp only [List.set_cons_succ]
      try simp only [List.set_cons_zero]
      refine takeOp (i := 3) (v := ?_) (some 26) rfl rfl (by kernel_rfl) (by kernel_rfl) (by kernel_rfl) (fun _ _ _ h => h) (Or.inl ⟨by rfl, ?_⟩) (by assumption) ?_
      rotate_left 1
      · (intro w0 hSw; (try dsimp only at hSw); go_simp; try (with_reducible rfl))
      try simp only [Act.put]
      try simp only [List.setIfInBounds_toArray]
      try simp only [List.set_cons_succ]
      try simp only [List.set_cons_zero]
      refine takeOp (i := 4) (v := ?_) (some 27) rfl rfl (by kernel_rfl) (by kernel_rfl) (by kernel_rfl) (fun _ _ _ h => h) (Or.inl ⟨by rfl, ?_⟩) (by assumption) ?_
      rotate_left 1
      · (intro w0 hSw; (try dsimp only at hSw); go_simp; try (with_reducible rfl))
      try simp only [Act.put]
      try simp only [List.setIfInBounds_toArray]
      try simp only [List.set_cons_succ]
      try simp only [List.set_cons_zero]
      refine takeOp (i := 5) (v := ?_) (some 28) rfl rfl (by kernel_rfl) (by kernel_rfl) (by kernel_rfl) (fun _ _ _ h => h) (Or.inl ⟨by rfl, ?_⟩) (by assumption) ?_
      rotate_left 1
      · (intro w0 hSw; (try dsimp only at hSw); go_simp; try (with_reducible rfl))
      try simp only [Act.put]
      try simp only [List.setIfInBounds_toArray]
      try simp only [List.set_cons_succ]
      try simp only [List.set_cons_zero]
      refine takeOp (i := 6) (v := ?_) (some 29) rfl rfl (by kernel_rfl) (by kernel_rfl) (by kernel_rfl) (fun _ _ _ h => h) (Or.inl ⟨by rfl, ?_⟩) (by assumption) ?_
      rotate_left 1
      · (intro w0 hSw; (try dsimp only at hSw); go_simp; try (with_reducible rfl))
      try simp only [Act.put]
      try simp only [List.setIfInBounds_toArray]
      try simp only [List.set_cons_succ]
      try simp only [List.set_cons_zero]
      refine takeOp (i := 7) (v := ?_) (some 30) rfl rfl (by kernel_rfl) (by kernel_rfl) (by kernel_rfl) (fun _ _ _ h => h) (Or.inl ⟨by rfl, ?_⟩) (by assumption) ?_
      rotate_left 1
      · (intro w0 hSw; (try dsimp only at hSw); go_simp; try (with_reducible rfl))
      try simp only [Act.put]
      try simp only [List.setIfInBounds_toArray]
      try simp only [List.set_cons_succ]
      try simp only [List.set_cons_zero]
      refine takeOp (i := 8) (v := ?_) (some 31) rfl rfl (by kernel_rfl) (by kernel_rfl) (by kernel_rfl) (fun _ _ _ h => h) (Or.inl ⟨by rfl, ?_⟩) (by assumption) ?_
      rotate_left 1
      · (intro w0 hSw; (try dsimp only at hSw); go_simp; try (with_reducible rfl))
      try simp only [Act.put]
      try simp only [List.setIfInBounds_toArray]
      try simp only [List.set_cons_succ]
      try simp only [List.set_cons_zero]
      refine takeOp (i := 9) (v := ?_) (some 32) rfl rfl (by kernel_rfl) (by kernel_rfl) (by kernel_rfl) (fun _ _ _ h => h) (Or.inl ⟨by rfl, ?_⟩) (by assumption) ?_
      rotate_left 1
      · (intro w0 hSw; (try dsimp only at hSw); go_simp; try (with_reducible rfl))
      try simp only [Act.put]
      try simp only [List.setIfInBounds_toArray]
      try simp only [List.set_cons_succ]
      try simp only [List.set_cons_zero]
      refine takeOp (i := 10) (v := ?_) (some 33) rfl rfl (by kernel_rfl) (by kernel_rfl) (by kernel_rfl) (fun _ _ _ h => h) (Or.inl ⟨by rfl, ?_⟩) (by assumption) ?_
      rotate_left 1
      · (intro w0 hSw; (try dsimp only at hSw); go_simp; try (with_reducible rfl))
      try simp only [Act.put]
      try simp only [List.setIfInBounds_toArray]
      try simp only [List.set_cons_succ]
      try simp only [List.set_cons_zero]
      refine wpAnyH_ready (rs := [11]) (by kernel_rfl) (by simp) ?_
      refine AllReadyH.cons rfl (fun K hK => ?_) AllReadyH.nil
      go_simp
      have hxa : Ext wr ((wr.alloc (.cells #[.int .i64 u.kind, .int .i64 u.int, .string u.str] 38)).drew) := ((Ext.refl wr).alloc _).drew
      have KEEP1 := (⟨(hxa.cell hbr).trans c1', (hxa.cell hb2r).trans d1, (hxa.cell hb3r).trans e1, (hxa.cell hb3r).trans e2, (hxa.cell hb3r).trans e3⟩ : _ ∧ _ ∧ _ ∧ _ ∧ _)
      clear hxa
      refine hK.out _ _ KEEP1 (fun hHeld => ?_)
      clear hK K
      try simp only [Act.put]
      try simp only [List.setIfInBounds_toArray]
      try simp only [List.set_cons_succ]
      try simp only [List.set_cons_zero]
      refine wpAnyH_ready (rs := [12]) (by kernel_rfl) (by simp) ?_
      refine AllReadyH.cons rfl (fun K hK => ?_) AllReadyH.nil
      refine stepVR (w := (wr.alloc (.cells #[.int .i64 u.kind, .int .i64 u.int, .string u.str] 38)).drew) rfl (.tmp 23) (.tmp 34) rfl wo.heap.size u7 Lk (by simp [Act.eval]) (by rw [HTL.out]; exact HOW.out.alloc _) wr.heap.size u (by simp [Act.eval]) (Row.new wr 38 (vcells u)) (by rw [HTL.out]; omega) (by simp; omega) ?_
      intro ng cap w2 hown2 hg2 hat2
      have hz : wr.heap.size ≤ ((wr.alloc (.cells #[.int .i64 u.kind, .int .i64 u.int, .string u.str] 38)).drew).heap.size := by simp
      have hng : ∀ (p : Addr), p.block < wo.heap.size → some p.block ≠ u7.ownBlock := fun p hp e => by have := HV7.out _ e.symm; omega
      have KEEP2 : w2.cell? ⟨b, o + i, none⟩ = some (.slice (some ⟨b3, o3, none⟩) x.length C') ∧ w2.cell? ⟨b2, o2 + k, none⟩ = some (.int .i64 q) ∧ w2.cell? ⟨b3, o3 + q * 3, none⟩ = some (.int .i64 u.kind) ∧ w2.cell? ⟨b3, o3 + q * 3 + 1, none⟩ = some (.int .i64 u.int) ∧ w2.cell? ⟨b3, o3 + q * 3 + 2, none⟩ = some (.string u.str) :=
        ⟨(grown_cell hg2 (p := ⟨b, o + i, none⟩) (Nat.lt_of_lt_of_le hbr hz) (hng _ hbw)).trans KEEP1.1, (grown_cell hg2 (p := ⟨b2, o2 + k, none⟩) (Nat.lt_of_lt_of_le hb2r hz) (hng _ (by show b2 < _; omega))).trans KEEP1.2.1, (grown_cell hg2 (p := ⟨b3, o3 + q * 3, none⟩) (Nat.lt_of_lt_of_le hb3r hz) (hng _ (by show b3 < _; omega))).trans KEEP1.2.2.1, (grown_cell hg2 (p := ⟨b3, o3 + q * 3 + 1, none⟩) (Nat.lt_of_lt_of_le hb3r hz) (hng _ (by show b3 < _; omega))).trans KEEP1.2.2.2.1, (grown_cell hg2 (p := ⟨b3, o3 + q * 3 + 2, none⟩) (Nat.lt_of_lt_of_le hb3r hz) (hng _ (by show b3 < _; omega))).trans KEEP1.2.2.2.2⟩
      have HOWN2 := Lib.hid hown2
      have HG2 := Lib.hid hg2
      clear hown2 hg2 hat2 hng hz
      refine hK.out _ _ KEEP2 (fun hHeld => ?_)
      clear hK K
      try simp only [Act.put]
      try simp only [List.setIfInBounds_toArray]
      try simp only [List.set_cons_succ]
      try simp only [List.set_cons_zero]
      refine takeOp (i := 13) (v := ?_) (some 7) rfl rfl (by kernel_rfl) (by kernel_rfl) (by kernel_rfl) (fun _ _ _ h => h) (Or.inl ⟨by rfl, ?_⟩) (by assumption) ?_
      rotate_left 1
      · (intro w0 hSw; (try dsimp only at hSw); go_simp; try (with_reducible rfl))
      try simp only [Act.put]
      try simp only [List.setIfInBounds_toArray]
      try simp only [List.set_cons_succ]
      try simp only [List.set_cons_zero]
      refine wpAnyH_done (by kernel_rfl) ?_ _
      go_wp2
      go_roundw
      case rel =>
        refine ⟨k + 1, by omega, by go_num, by rw [HPT.out, ← HTL.out]; exact HOWN2.out, Below.then HB2.out ?_ (Nat.le_refl _)⟩
        exact Below.then ((((Ext.refl wr).alloc (.cells #[.int .i64 u.kind, .int .i64 u.int, .string u.str] 38)).drew).below.mono hz2) (grownBelow HG2.out HV7.out) (Nat.le_refl _)
      case measure => simp [intOf]; omega

end Go.Proofs.Ytlcammcifjihpaa
end

section
/- Plain and walk: the reference's Children of chapter 34. -/
namespace Go.Proofs.Ytlcammcifjihpaa
open Go.RowKit Go.Sort

theorem snoc_ind {α : Type} {motive : List α → Prop} (nil : motive []) (append_singleton : ∀ Q y, motive Q → motive (Q ++ [y])) (Q : List α) : motive Q := by
  have h : ∀ L : List α, motive L.reverse := fun L => by
    induction L with
    | nil => exact nil
    | cons a L ih => rw [List.reverse_cons]; exact append_singleton _ _ ih
  have := h Q.reverse
  rwa [List.reverse_reverse] at this
/-- One row more for the reference's Children. -/
def childStep (p : RL.R) (out : RL.R) (y : RL.R) : RL.R :=
  if y.length ≤ p.length ∨ y.take p.length ≠ p then out else if out = [] ∨ out.getLastD default ≠ y.getD p.length default then out ++ [y.getD p.length default] else out
def childF (p : RL.R) (Q : List RL.R) : RL.R := Q.foldl (childStep p) []
theorem childF_snoc (p : RL.R) (Q : List RL.R) (y : RL.R) : childF p (Q ++ [y]) = childStep p (childF p Q) y := by unfold childF; rw [List.foldl_append]; rfl

theorem childF_len (p : RL.R) : ∀ Q : List RL.R, (childF p Q).length ≤ Q.length := by
  intro Q
  induction Q using snoc_ind with
  | nil => simp [childF]
  | append_singleton Q y ih =>
    rw [childF_snoc]
    unfold childStep
    rw [List.length_append, List.length_singleton]
    split
    · omega
    · split
      · rw [List.length_append, List.length_singleton]; omega
      · omega

theorem childF_spec {d : Nat} (p : RL.R) (hk : p.length < d) : ∀ (Q : List RL.R), RL.SS Q → (∀ r ∈ Q, r.length = d) → (childF p Q).Pairwise (fun a b => RL.cmpV a b < 0) ∧ ∀ v, v ∈ childF p Q ↔ ∃ y ∈ Q, y.take (p.length + 1) = p ++ [v] := by
  intro Q
  induction Q using snoc_ind with
  | nil => intro _ _; simp [childF]
  | append_singleton Q y ih =>
    intro hS hd
    have hS1 : RL.SS Q := by unfold RL.SS at *; exact (List.pairwise_append.1 hS).1
    have hlt : ∀ z ∈ Q, RL.cmpR z y < 0 := fun z hz => by unfold RL.SS at hS; exact (List.pairwise_append.1 hS).2.2 z hz y (by simp)
    obtain ⟨ih1, ih2⟩ := ih hS1 (fun r hr => hd r (by simp [hr]))
    have hyl : y.length = d := hd y (by simp)
    rw [childF_snoc]
    unfold childStep
    by_cases h1 : y.length ≤ p.length ∨ y.take p.length ≠ p
    · rw [if_pos h1]
      refine ⟨ih1, fun v => ?_⟩
      rw [ih2]
      constructor
      · rintro ⟨z, hz, e⟩; exact ⟨z, by simp [hz], e⟩
      · rintro ⟨z, hz, e⟩
        rw [List.mem_append, List.mem_singleton] at hz
        rcases hz with hz | rfl
        · exact ⟨z, hz, e⟩
        · exfalso
          rcases h1 with h1 | h1
          · omega
          · apply h1
            have := congrArg (List.take p.length) e
            rw [List.take_take, Nat.min_eq_left (by omega), List.take_left] at this
            exact this
    · rw [if_neg h1]
      have h2 : y.take p.length = p := Classical.byContradiction fun h => h1 (.inr h)
      have hpy : p.length < y.length := by omega
      have hv : y.getD p.length default = y[p.length] := by rw [List.getD_eq_getElem?_getD, List.getElem?_eq_getElem hpy]; rfl
      have hyt : y.take (p.length + 1) = p ++ [y[p.length]] := by rw [List.take_succ_eq_append_getElem hpy, h2]
      rw [hv]
      have hle : ∀ u ∈ childF p Q, RL.cmpV u y[p.length] ≤ 0 := fun u hu => by
        obtain ⟨z, hz, e⟩ := (ih2 u).1 hu
        have h3 := RL.take_mono (p.length + 1) z y (by have := hlt z hz; omega)
        rw [e, hyt, RL.cmpR_append_left, RL.cmpR_one] at h3
        exact h3
      have hmem : ∀ v, (∃ z ∈ Q ++ [y], z.take (p.length + 1) = p ++ [v]) ↔ v ∈ childF p Q ∨ v = y[p.length] := fun v => by
        rw [ih2]
        constructor
        · rintro ⟨z, hz, e⟩
          rw [List.mem_append, List.mem_singleton] at hz
          rcases hz with hz | rfl
          · exact .inl ⟨z, hz, e⟩
          · right
            rw [hyt] at e
            have := List.append_cancel_left e
            simpa using this.symm
        · rintro (⟨z, hz, e⟩ | rfl)
          · exact ⟨z, by simp [hz], e⟩
          · exact ⟨y, by simp, hyt⟩
      split
      · rename_i h3
        refine ⟨?_, fun v => by rw [hmem, List.mem_append, List.mem_singleton]⟩
        rw [List.pairwise_append]
        refine ⟨ih1, by simp, fun u hu v hv2 => ?_⟩
        rw [List.mem_singleton] at hv2
        subst hv2
        rcases List.eq_nil_or_concat (childF p Q) with h4 | ⟨R, l, h4⟩
        · rw [h4] at hu; cases hu
        · rw [List.concat_eq_append] at h4
          have h5 : l ≠ y[p.length] := by
            rcases h3 with h3 | h3
            · rw [h4] at h3; simp at h3
            · rw [h4, List.getLastD_concat] at h3; exact h3
          have hl : RL.cmpV l y[p.length] < 0 := by
            have := hle l (by rw [h4]; simp)
            rcases Int.lt_or_eq_of_le this with h6 | h6
            · exact h6
            · exact absurd ((RL.tot_cmpV.z _ _).1 h6) h5
          rw [h4, List.mem_append, List.mem_singleton] at hu
          rcases hu with hu | rfl
          · rw [h4, List.pairwise_append] at ih1
            exact RL.tot_cmpV.tr _ _ _ (ih1.2.2 u hu l (by simp)) hl
          · exact hl
      · rename_i h3
        refine ⟨ih1, fun v => ?_⟩
        rw [hmem]
        have h4 : y[p.length] ∈ childF p Q := by
          have h5 : childF p Q ≠ [] := fun h => h3 (.inl h)
          have h6 : (childF p Q).getLastD default = y[p.length] := Classical.byContradiction fun h => h3 (.inr h)
          rw [← h6]
          rcases List.eq_nil_or_concat (childF p Q) with h7 | ⟨R, l, h7⟩
          · exact absurd h7 h5
          · rw [h7, List.concat_eq_append, List.getLastD_concat]; simp
        constructor
        · exact .inl
        · rintro (h | rfl)
          · exact h
          · exact h4
theorem childF_out {d : Nat} (p : RL.R) (hk : d ≤ p.length) : ∀ (Q : List RL.R), (∀ r ∈ Q, r.length = d) → childF p Q = [] := by
  intro Q
  induction Q using snoc_ind with
  | nil => intro _; rfl
  | append_singleton Q y ih =>
    intro hd
    rw [childF_snoc, ih (fun r hr => hd r (by simp [hr]))]
    unfold childStep
    rw [if_pos (.inl (by rw [hd y (by simp)]; exact hk))]
/-- The reference's Children are the values below the prefix. -/
theorem childF_eq {d : Nat} {P : List RL.R} (hS : RL.SS P) (hd : ∀ r ∈ P, r.length = d) (p : RL.R) : childF p P = RL.kids d P p := by
  by_cases hk : p.length < d
  · obtain ⟨h1, h2⟩ := childF_spec p hk P hS hd
    exact RL.asc_ext h1 (RL.kids_asc hd p) (fun v => by rw [h2, RL.mem_kids hd hk])
  · rw [childF_out p (by omega) P hd, RL.kids_out (by omega)]

/-- append of one value to a row of the call's own. -/
theorem app1VS {w : World} {ops : Array Oper} {rest : List Oper} {o : Oper} {a : Act} {Q : Exit → Act → World → Prop} (hgd : o.guard = none) (s x : Operand)
    (ho : o.op = .call { callee := .builtin .append, args := #[s, x], argTypes := #[46, 46] })
    (base : Nat) (v : Value) (l : RL.R) (hs : a.eval s = v) (hown : w.ownsRow base 38 3 v l.length (rcells l))
    (gt : Nat) (z : RL.V) (hx : a.eval x = .slice (some ⟨gt, 0, none⟩) 1 1) (h0 : w.cell? ⟨gt, 0, none⟩ = some (.int .i64 z.kind)) (h1 : w.cell? ⟨gt, 1, none⟩ = some (.int .i64 z.int)) (h2 : w.cell? ⟨gt, 2, none⟩ = some (.string z.str))
    (hn : l.length ≤ 100000000) (hbase : base ≤ w.heap.size)
    (h : ∀ v' w', w'.ownsRow base 38 3 v' (l ++ [z]).length (rcells (l ++ [z])) → w.grownBy w' v.ownBlock → wpList Try.prog ops Q rest (a.put o.dst v') w') : wpList Try.prog ops Q (o :: rest) a w := by
  obtain ⟨i0, hi0, hz0, hz1, hz2⟩ := info_parts valInfo
  refine wpList_append_own w hgd s x 46 ho base 38 i0 _ 3 32 Try.underlying46 hi0 hz0 hz1 hz2 rfl (by decide) v l.length (rcells l) hs hown ⟨gt, 0, none⟩ 1 1 (vcells z) hx rfl ?_ ?_ (by simp only [maxLen]; omega) (by omega) hbase ?_
  · intro j u hu
    match j with
    | 0 => simp [vcells] at hu; subst hu; exact h0
    | 1 => simp [vcells] at hu; subst hu; exact h1
    | 2 => simp [vcells] at hu; subst hu; exact h2
    | j + 3 => simp [vcells] at hu
  · intro u hu; simp [vcells] at hu; rcases hu with rfl | rfl | rfl <;> rfl
  · intro v' w' h1 h2 _
    refine h v' w' ?_ h2
    rw [rcells_append, List.length_append]
    have : rcells [z] = vcells z := by simp [rcells]
    rw [this]
    exact h1

end Go.Proofs.Ytlcammcifjihpaa
end

section
/- Walk: the reference's Children of chapter 34. -/
namespace Go.Proofs.Ytlcammcifjihpaa
open Go.RowKit Go.Sort

theorem childStep_skip {p out y : RL.R} (h : y.length ≤ p.length ∨ y.take p.length ≠ p) : childStep p out y = out := by unfold childStep; rw [if_pos h]
theorem childStep_new {p out y : RL.R} (h : ¬ (y.length ≤ p.length ∨ y.take p.length ≠ p)) (h2 : out = [] ∨ out.getLastD default ≠ y.getD p.length default) : childStep p out y = out ++ [y.getD p.length default] := by unfold childStep; rw [if_neg h, if_pos h2]
theorem childStep_old {p out y : RL.R} (h : ¬ (y.length ≤ p.length ∨ y.take p.length ≠ p)) (h2 : ¬ (out = [] ∨ out.getLastD default ≠ y.getD p.length default)) : childStep p out y = out := by unfold childStep; rw [if_neg h, if_neg h2]

set_option maxHeartbeats 4000000 in
set_option maxRecDepth 100000 in
theorem r34Children_any (XA PA : Option Addr) (XC PC : Nat) (X : List RL.R) (p : RL.R) (w : World) (hX : SlRs w.heap.size w XA X) (hp : SlR w.heap.size w PA p) (hXl : X.length ≤ 100000) (hpl : p.length ≤ 1000000) (hrl : ∀ x ∈ X, x.length ≤ 1000000) :
    Calls Try.prog 28 #[.slice XA X.length XC, .slice PA p.length PC] w fun e w' => ∃ v, e = .returned v ∧ w'.ownsRow w.heap.size 38 3 v (childF p X).length (rcells (childF p X)) ∧ Below w.heap.size w w' := by
  have HX := Lib.hid hX
  have HP := Lib.hid hp
  have HRL := Lib.hid hrl
  clear hX hp hrl
  go_enter Try.func28, Try.ntmps28
  go_wp2
  go_loopw [5, 6] (fun v m wr => ∃ i : Nat, i ≤ X.length ∧ m = .int .i64 i ∧ wr.ownsRow w.heap.size 38 3 v (childF p (X.take i)).length (rcells (childF p (X.take i))) ∧ Below w.heap.size w wr) (fun _ m _ => X.length - (intOf m).toNat)
  case atStart => exact ⟨0, Nat.zero_le _, rfl, own_nil _ _ _ _, Below.refl _ _⟩
  case round =>
    obtain ⟨i, hia, rfl, hown, hb⟩ := hrel
    have HO := Lib.hid hown
    have HB := Lib.hid hb
    have hzz := hb.size
    clear hown hb
    by_cases h1 : i < X.length
    rotate_left
    · obtain rfl : i = X.length := by omega
      rw [List.take_length] at HO
      go_wp2
      go_ret
      exact ⟨_, rfl, HO.out, HB.out⟩
    obtain ⟨b, o, A', C', rfl, hb1, c1, hc1, hm1, hsx⟩ := slRs_at HX.out h1
    have c1 := (HB.out.cell (p := ⟨b, o + i, none⟩) hb1).trans c1
    have HSX := Lib.hid ((SlR.below hsx HB.out (Nat.le_refl _)).more hzz)
    have hxl : X[i].length ≤ 1000000 := HRL.out _ (List.getElem_mem h1)
    have HCF : Hid (childF p (X.take (i + 1)) = childStep p (childF p (X.take i)) X[i]) := by
      show _ = _
      rw [List.take_succ_eq_append_getElem h1, childF_snoc]
    have HCL : Hid ((childF p (X.take i)).length ≤ 100000) := by
      show _ ≤ _
      have := childF_len p (X.take i)
      rw [List.length_take] at this
      omega
    have hbw : b < wr.heap.size := by omega
    generalize X[i] = y at *
    generalize childF p (X.take i) = out at *
    clear hsx
    by_cases h2 : y.length ≤ p.length
    · have HS := Lib.hid (HCF.out.trans (childStep_skip (.inl h2)))
      have h2' : decide ((y.length : Int) ≤ (p.length : Int)) = true := by simp; omega
      clear HCF
      go_wp2
      go_roundw
      case rel => exact ⟨i + 1, by omega, by go_num, by rw [HS.out]; exact HO.out, HB.out⟩
      case measure => simp [intOf]; omega
    have h2' : decide ((y.length : Int) ≤ (p.length : Int)) = false := by simp; omega
    have hpc : p.length ≤ C' := by omega
    have HTL : Hid ((y.take p.length).length = p.length) := by show _ = _; rw [List.length_take]; omega
    have HSR : Hid (Calls Try.prog 30 #[.slice A' p.length C', .slice PA p.length PC] wr fun e w' => e = .returned (.bool (decide (y.take p.length = p))) ∧ Ext wr w') := by
      have h := r3SameRows_any A' PA C' PC (y.take p.length) p wr (HSX.out.take _) ((HP.out.below HB.out (Nat.le_refl _)).more hzz) (by rw [HTL.out]; exact hpl) hpl
      rw [HTL.out] at h
      exact h
    by_cases h3 : y.take p.length = p
    rotate_left
    · have HS := Lib.hid (HCF.out.trans (childStep_skip (.inr h3)))
      have hd : decide (y.take p.length = p) = false := by simpa using h3
      rw [hd] at HSR
      clear HCF h3 hd
      go_wp2_with fail
      refine HSR.out.mono ?_
      rintro e w2 ⟨rfl, hx2⟩
      have HX2 := Lib.hid hx2
      clear hx2
      go_wp2
      go_roundw
      case rel => exact ⟨i + 1, by omega, by go_num, by rw [HS.out]; exact own_keep HO.out HX2.out.below, Below.then HB.out HX2.out.below hzz⟩
      case measure => simp [intOf]; omega
    have hd : decide (y.take p.length = p) = true := by simpa using h3
    rw [hd] at HSR
    have HNS : Hid (¬ (y.length ≤ p.length ∨ y.take p.length ≠ p)) := fun h => by
      rcases h with h | h
      · exact h2 h
      · exact h h3
    clear h3 hd
    have hpy : p.length < y.length := by omega
    obtain ⟨b3, o3, rfl, hb3, e1, e2, e3⟩ := slR_at HSX.out hpy
    have HV : Hid (y.getD p.length default = y[p.length]) := by show _ = _; rw [List.getD_eq_getElem?_getD, List.getElem?_eq_getElem hpy]; rfl
    generalize y[p.length] = v at *
    have g3 : (p.length : Int) < (y.length : Int) := by omega
    clear hpy
    go_wp2_with fail
    refine HSR.out.mono ?_
    rintro e w2 ⟨rfl, hx2⟩
    have HX2 := Lib.hid hx2
    have c1' := (hx2.cell hbw).trans c1
    have e1 := (hx2.cell hb3).trans e1
    have e2 := (hx2.cell hb3).trans e2
    have e3 := (hx2.cell hb3).trans e3
    have hz2 := hx2.size
    have HO2 := Lib.hid (own_keep HO.out hx2.below)
    obtain ⟨W3, hW3⟩ : ∃ W3, W3 = w2.alloc (.cells #[.int .i64 v.kind, .int .i64 v.int, .string v.str] 38) := ⟨_, rfl⟩
    have hx3 : Ext w2 W3 := by rw [hW3]; exact (Ext.refl w2).alloc _
    have hr3 : Row W3 w2.heap.size 38 (vcells v) := by rw [hW3]; exact Row.new w2 38 (vcells v)
    have n1 : W3.cell? ⟨w2.heap.size, 0, none⟩ = some (.int .i64 v.kind) := hr3.cell 0
    have n2 : W3.cell? ⟨w2.heap.size, 1, none⟩ = some (.int .i64 v.int) := hr3.cell 1
    have n3 : W3.cell? ⟨w2.heap.size, 2, none⟩ = some (.string v.str) := hr3.cell 2
    have HO3 := Lib.hid (own_keep HO2.out hx3.below)
    have HB3 := Lib.hid (Below.then HB.out (HX2.out.trans hx3).below hzz)
    have hz3 := hr3.lt
    obtain ⟨hol, OA, OC, hu5, hoc, hom, hosl, hob⟩ := SlR.of_own HO3.out
    have HOS := Lib.hid hosl
    subst hu5
    clear hx2 hx3 hr3 HSR hosl hob hol HO HO2 c1
    by_cases h4 : out = []
    case' pos =>
      have HS := Lib.hid (HCF.out.trans (childStep_new HNS.out (.inl h4)))
      have hn0 : ((out.length : Int) == 0) = true := by rw [h4]; rfl
      clear h4 HCF HNS
      go_wp2
      rw [← hW3]
      clear hW3
      go_quiet (fail)
      go_upto_region 8 with (fail)
    case' neg =>
      have hpos : 0 < out.length := List.length_pos_iff.2 h4
      obtain ⟨m, hm⟩ : ∃ m, out.length = m + 1 := ⟨out.length - 1, by omega⟩
      obtain ⟨b4, o4, hOA, hb4, q1, q2, q3⟩ := slR_at HOS.out (show m < out.length by omega)
      have HLA : Hid (out.getLastD default = out[m]) := by
        show _ = _
        rw [List.getLastD_eq_getLast?, List.getLast?_eq_getElem?, show out.length - 1 = m by omega, List.getElem?_eq_getElem (by omega)]
        rfl
      subst hOA
      have HM := Lib.hid hm
      have hn0 : ((out.length : Int) == 0) = false := by simp; omega
      have hw1 : IntKind.i64.wrap ((out.length : Int) - 1) = (m : Int) := by rw [IntWalk.i64_in _ (by have := HCL.out; omega)]; omega
      have hw2 : (out.length : Int) - 1 = (m : Int) := by omega
      have hml : m < out.length := by omega
      generalize out[m] = u at *
      by_cases h5 : u = v
      · have HS := Lib.hid (HCF.out.trans (childStep_old HNS.out (fun h => by
          rcases h with h | h
          · exact h4 h
          · exact h ((HLA.out.trans h5).trans HV.out.symm))))
        have hr := run_neV_t h5
        clear h4 h5 HCF HNS hm HLA
        go_wp2
        rw [← hW3]
        clear hW3
        go_quiet (fail)
        go_wp2
        go_roundw
        case rel => exact ⟨i + 1, by omega, by go_num, by rw [HS.out]; exact HO3.out, Below.drewN' HB3.out _⟩
        case measure => simp [intOf]; omega
      have HS := Lib.hid (HCF.out.trans (childStep_new HNS.out (.inr (fun h => h5 (HLA.out.symm.trans (h.trans HV.out))))))
      have hr := run_neV_f h5
      clear h4 h5 HCF HNS hm HLA hpos
      go_wp2
      rw [← hW3]
      clear hW3
      go_quiet (fail)
      go_upto_region 8 with (fail)
    all_goals
      go_wp2_with (at_builtin; refine app1VS rfl (.tmp 55) (.tmp 57) rfl w.heap.size _ out rfl (by exact HO3.out.alloc _) W3.heap.size v rfl (by exact (Row.new (W3.drewN nq) 38 (vcells v)).cell 0) (by exact (Row.new (W3.drewN nq) 38 (vcells v)).cell 1) (by exact (Row.new (W3.drewN nq) 38 (vcells v)).cell 2) (by have := HCL.out; omega) (by simp; omega) ?_)
      intro v' w5 hown5 hg5
      have hvb : ∀ j, (Value.slice _ out.length OC).ownBlock = some j → w.heap.size ≤ j := fun j hj => own_base HO3.out hj
      have HOWN5 := Lib.hid hown5
      have HB5 := Lib.hid (Below.then HB3.out (Below.undrewN (app_kept hvb (by have := HB3.out.size; exact this) hg5)) (Nat.le_refl _))
      clear hown5 hg5 hvb
      go_wp2
      go_roundw
      case rel => exact ⟨i + 1, by omega, by go_num, by rw [HS.out, HV.out, List.length_append]; exact HOWN5.out, HB5.out⟩
      case measure => simp [intOf]; omega

end Go.Proofs.Ytlcammcifjihpaa
end

section
/- Walk: trie.New. -/
namespace Go.Proofs.Ytlcammcifjihpaa
open Go.RowKit Go.Sort

/-- What trie.New leaves. -/
def NewPost (w : World) (n : Int) (X : List RL.R) (cs : List Int) (e : Ending) (w' : World) : Prop :=
  (newErr n cs ≠ 0 → e = .returned (.tuple #[.agg #[.slice none 0 0], .int .i64 (newErr n cs)])) ∧ (newErr n cs = 0 → ∃ LA C, e = .returned (.tuple #[.agg #[.slice LA cs.length C], .int .i64 0]) ∧ TrM w'.heap.size w' LA cs.length (vsF cs.length (RL.ofF (X.map (projF · cs)))) (fsF cs.length (RL.ofF (X.map (projF · cs))))) ∧ Below w.heap.size w w'
theorem NewPost.bad {w : World} {n : Int} {X : List RL.R} {cs : List Int} {e : Ending} {w' : World} {q : Int} (hq : newErr n cs = q) (hne : q ≠ 0) (he : e = .returned (.tuple #[.agg #[.slice none 0 0], .int .i64 q])) (hb : Below w.heap.size w w') : NewPost w n X cs e w' :=
  ⟨fun _ => by rw [hq]; exact he, fun h0 => absurd (hq.symm.trans h0) hne, hb⟩

set_option maxHeartbeats 8000000 in
set_option maxRecDepth 100000 in
theorem trNew_any (n : Int) (RA CA : Option Addr) (RC CC : Nat) (X : List RL.R) (cs : List Int) (w : World) (hX : SlRs w.heap.size w RA X) (hcs : SlI .i64 w.heap.size w CA cs) (hXo : RsOk X) (hXl : X.length ≤ 60000) (hcl : cs.length ≤ 32) (hcc : cs.length ≤ CC) (_hcm : CC ≤ 9223372036854775807) (hlen : ∀ x ∈ X, (x.length : Int) = n) :
    Calls Try.prog 25 #[.agg #[.int .i64 n, .slice RA X.length RC], .slice CA cs.length CC] w (NewPost w n X cs) := by
  have HX := Lib.hid hX
  have HCS := Lib.hid hcs
  have HXO := Lib.hid hXo
  have HLEN := Lib.hid hlen
  have hmk := makeLevels cs.length (by omega)
  have HMK := Lib.hid hmk
  have HAR := Lib.hid (fun W => rlArity_any n RA X.length RC W)
  clear hX hcs hXo hlen hmk
  go_enter Try.func25, Try.ntmps25
  go_wp2
  have HB0 := Lib.hid (((Ext.refl w).alloc (.cells #[.int .i64 n, .slice RA X.length RC] 54)).alloc (.cells #[.slice none 0 0] 31))
  have HR0 := Lib.hid ((Row.new w 54 [.int .i64 n, .slice RA X.length RC]).alloc (.cells #[.slice none 0 0] 31))
  have HT0 := Lib.hid (Row.new (w.alloc (.cells #[.int .i64 n, .slice RA X.length RC] 54)) 31 [.slice none 0 0])
  generalize hW0 : (w.alloc (.cells #[.int .i64 n, .slice RA X.length RC] 54)).alloc (.cells #[.slice none 0 0] 31) = W0 at *
  have hz0 : W0.heap.size = w.heap.size + 2 := by rw [← hW0]; simp
  simp only [World.size_alloc] at HT0
  clear hW0
  have HZ0 := Lib.hid hz0
  have hz1 : w.heap.size < W0.heap.size := by omega
  have hz2 : w.heap.size + 1 < W0.heap.size := by omega
  clear hz0
  have HCT : Hid (∀ (k : Nat) (c : Int) (W : World), k ≤ cs.length → Ext w W → Calls Try.prog 40 #[.slice CA k CC, .int .i64 c] W fun e w' => e = .returned (.bool (decide (c ∈ cs.take k))) ∧ W = w') := fun k c W hk hx => by
    have h := slContains_any CA CC (cs.take k) c W (((show SlI .i64 w.heap.size w CA (cs.take k) from fun hn => by
      obtain ⟨b, o, e, hb, hc⟩ := HCS.out (by intro h0; apply hn; rw [List.map_eq_nil_iff] at h0; rw [h0]; simp)
      refine ⟨b, o, e, hb, fun i u hu => hc i u ?_⟩
      rw [List.map_take, List.getElem?_take] at hu
      split at hu
      · exact hu
      · cases hu).ext (Nat.le_refl _) hx).more hx.size) (by simp; omega)
    rw [List.length_take, Nat.min_eq_left hk] at h
    exact h
  go_loopw [17] (fun m wr => ∃ k : Nat, k ≤ cs.length ∧ m = .int .i64 k ∧ Ext W0 wr ∧ (∀ j, j < k → colErr n cs j = 0)) (fun m _ => cs.length - (intOf m).toNat)
  case atStart => exact ⟨0, Nat.zero_le _, rfl, Ext.refl _, fun j hj => absurd hj (by omega)⟩
  case round =>
    obtain ⟨k, hka, rfl, hext, hall⟩ := hrel
    have HE := Lib.hid hext
    have HALL := Lib.hid hall
    have hzz := hext.size
    have hr1 := (HT0.out.up hext.below)
    have hr2 := (HR0.out.up hext.below)
    have p0 : wr.cell? ⟨w.heap.size, 0, none⟩ = some (.int .i64 n) := hr2.cell 0
    have p1 : wr.cell? ⟨w.heap.size, 1, none⟩ = some (.slice RA X.length RC) := hr2.cell 1
    have HR1 := Lib.hid hr1
    have f0 := hr1.frozen 0
    have p4 : wr.cell? ⟨w.heap.size + 1, 0, none⟩ = some (.slice none 0 0) := hr1.cell 0
    have HXX := Lib.hid (HB0.out.trans hext)
    clear hall hext hr1 hr2
    by_cases h1 : k < cs.length
    · obtain ⟨b, o, hA, hb, q1⟩ := slI_at HCS.out h1
      subst hA
      have q1 := (HXX.out.cell hb).trans q1
      have hbw : b < wr.heap.size := by have := HXX.out.size; omega
      have HC : Hid (colErr n cs k = if cs[k] < 0 ∨ n ≤ cs[k] then 3 else if cs[k] ∈ cs.take k then 8 else 0) := by
        show _ = _
        unfold colErr
        rw [List.getD_eq_getElem?_getD, List.getElem?_eq_getElem h1]
        rfl
      generalize cs[k] = c at *
      have hw1 : IntKind.i64.wrap ((k : Int) + 1) = (k : Int) + 1 := IntWalk.i64_in _ (by omega)
      by_cases g1 : c < 0
      · have HE1 := Lib.hid (newErr_at h1 HALL.out (by rw [HC.out, if_pos (.inl g1)]; omega))
        rw [HC.out, if_pos (.inl g1)] at HE1
        have z0 := (HR1.out.set 0 (.slice none 0 0)).cell 0
        simp only [List.set_cons_zero, List.getElem?_cons_zero] at z0
        have g1' : decide (c < 0) = true := by simpa using g1
        clear HC
        go_wp2
        exact bodyPost_ret (v := .tuple #[.agg #[.slice none 0 0], .int .i64 3]) (by simp [results, Try.results25, go_sem, z0]) rfl (NewPost.bad HE1.out (by omega) rfl (HXX.out.below.setCell (by simp) _))
      · by_cases g2 : n ≤ c
        · have HE1 := Lib.hid (newErr_at h1 HALL.out (by rw [HC.out, if_pos (.inr g2)]; omega))
          rw [HC.out, if_pos (.inr g2)] at HE1
          have g1' : decide (c < 0) = false := by simpa using g1
          have g2' : decide (n ≤ c) = true := by simpa using g2
          clear HC
          go_wp2_with fail
          refine (HAR.out _).mono ?_
          rintro e w1 ⟨rfl, hx⟩
          have hr3 := HR1.out.up hx.below
          have p4' : w1.cell? ⟨w.heap.size + 1, 0, none⟩ = some (.slice none 0 0) := hr3.cell 0
          have f0' := hr3.frozen 0
          have z0 := (hr3.set 0 (.slice none 0 0)).cell 0
          simp only [List.set_cons_zero, List.getElem?_cons_zero] at z0
          have HX1 := Lib.hid (HXX.out.trans hx)
          clear hr3 hx
          go_wp2
          exact bodyPost_ret (v := .tuple #[.agg #[.slice none 0 0], .int .i64 3]) (by simp [results, Try.results25, go_sem, z0]) rfl (NewPost.bad HE1.out (by omega) rfl (HX1.out.below.setCell (by simp) _))
        · have g1' : decide (c < 0) = false := by simpa using g1
          have g2' : decide (n ≤ c) = false := by simpa using g2
          have hkc : k ≤ CC := by omega
          have HC2 := Lib.hid (HC.out.trans (if_neg (by omega)))
          clear HC
          go_wp2_with fail
          refine (HAR.out _).mono ?_
          rintro e w1 ⟨rfl, hx⟩
          have hr3 := HR1.out.up hx.below
          have p4' : w1.cell? ⟨w.heap.size + 1, 0, none⟩ = some (.slice none 0 0) := hr3.cell 0
          have f0' := hr3.frozen 0
          have HR3 := Lib.hid hr3
          have HX1 := Lib.hid (HXX.out.trans hx)
          have HE3 := Lib.hid (HE.out.trans hx)
          clear hr3 hx p4 f0 p0 p1 q1
          go_wp2_with fail
          refine (HCT.out k c w1 (by omega) HX1.out).mono ?_
          rintro e w2 ⟨rfl, hw⟩
          obtain rfl := hw.symm
          clear hw
          by_cases g3 : c ∈ cs.take k
          · have HE1 := Lib.hid (newErr_at h1 HALL.out (by rw [HC2.out, if_pos g3]; omega))
            rw [HC2.out, if_pos g3] at HE1
            have g3' : decide (c ∈ cs.take k) = true := by simpa using g3
            have z0 := (HR3.out.set 0 (.slice none 0 0)).cell 0
            simp only [List.set_cons_zero, List.getElem?_cons_zero] at z0
            clear HC2
            generalize decide (c ∈ cs.take k) = q3 at *
            go_wp2
            exact bodyPost_ret (v := .tuple #[.agg #[.slice none 0 0], .int .i64 8]) (by simp [results, Try.results25, go_sem, z0]) rfl (NewPost.bad HE1.out (by omega) rfl (HX1.out.below.setCell (by simp) _))
          · have HC3 := Lib.hid (HC2.out.trans (if_neg g3))
            have g3' : decide (c ∈ cs.take k) = false := by simpa using g3
            generalize decide (c ∈ cs.take k) = q3 at *
            clear HC2
            go_wp2
            go_roundw
            case rel => exact ⟨k + 1, by omega, by go_num, HE3.out, fun j hj => by
              rcases Nat.lt_or_ge j k with h | h
              · exact HALL.out j h
              · obtain rfl : j = k := by omega
                exact HC3.out⟩
            case measure => simp [intOf]; omega
    · obtain rfl : k = cs.length := by omega
      go_wp2_with fail
      have hk0 := cols_of_zero HALL.out
      have HQ0 := Lib.hid (newErr_zero HALL.out)
      refine (rlProject_any n RA CA RC CC X cs wr ((HX.out.ext (Nat.le_refl _) HXX.out).more HXX.out.size) ((HCS.out.ext (Nat.le_refl _) HXX.out).more HXX.out.size) HXO.out hXl hcl HLEN.out).mono ?_
      rintro e w1 ⟨-, h2, hb⟩
      obtain ⟨v, rfl, PA, PC, rfl, hp1, hp2, hfr⟩ := h2 hk0
      have HSS := Lib.hid (RL.SS.of (X.map (projF · cs)))
      have HPO : Hid (RsOk (RL.ofF (X.map (projF · cs)))) := (HXO.out.proj hcl HLEN.out hk0).of_mem (fun y hy => (RL.mem_ofF _ _).1 hy)
      have HPD : Hid (∀ r ∈ RL.ofF (X.map (projF · cs)), r.length = cs.length) := fun r hr => by
        obtain ⟨x, _, rfl⟩ := List.mem_map.1 ((RL.mem_ofF _ _).1 hr)
        exact projF_length x cs
      have hPl : (RL.ofF (X.map (projF · cs))).length ≤ 60000 := by have := RL.ofF_length_le (X.map (projF · cs)); rw [List.length_map] at this; omega
      have HNP : Hid (∀ e w' LA C, e = .returned (.tuple #[.agg #[.slice LA cs.length C], .int .i64 0]) → TrM w'.heap.size w' LA cs.length (vsF cs.length (RL.ofF (X.map (projF · cs)))) (fsF cs.length (RL.ofF (X.map (projF · cs)))) → Below w.heap.size w w' → NewPost w n X cs e w') := fun e w' LA C h1 h2 h3 =>
        ⟨fun h => absurd HQ0.out h, fun _ => ⟨LA, C, h1, h2⟩, h3⟩
      generalize hP : RL.ofF (X.map (projF · cs)) = P at *
      have HSP := Lib.hid hfr.sl
      have HB1 := Lib.hid (Below.then HXX.out.below hb HXX.out.size)
      have HTB := Lib.hid (HR1.out.up hb)
      clear hP h2 hb hfr HQ0 hk0 HALL p0 p1 p4 f0 HX HXO HLEN HAR HCT HCS
      have hmk := HMK.out
      go_wp2_with fail
      obtain ⟨wo, hwo⟩ : ∃ wo, wo = wr := ⟨_, rfl⟩
      subst hwo
      obtain ⟨W4, hW4⟩ : ∃ W4, W4 = (((w1.alloc (.cells #[.int .i64 cs.length, .slice PA P.length PC] 54)).alloc (.cells (zerosA (.slice none 0 0) (cs.length * 2)) 74)).alloc (.cells #[.slice (some ⟨w1.heap.size + 1, 0, none⟩) cs.length cs.length] 31)) := ⟨_, rfl⟩
      have hx4 : Ext w1 W4 := by rw [hW4]; exact (((Ext.refl w1).alloc _).alloc _).alloc _
      have hz4 : W4.heap.size = w1.heap.size + 3 := by rw [hW4]; simp
      have hl4 : Row W4 (w1.heap.size + 1) 74 (List.replicate (cs.length * 2) (.slice none 0 0)) := by
        rw [hW4]
        have h := (Row.zeros (w1.alloc (.cells #[.int .i64 cs.length, .slice PA P.length PC] 54)) 74 (.slice none 0 0) (cs.length * 2)).alloc (.cells #[.slice (some ⟨w1.heap.size + 1, 0, none⟩) cs.length cs.length] 31)
        simp only [World.size_alloc] at h
        exact h
      have ht4 : Row W4 (w1.heap.size + 1 + 1) 31 [.slice (some ⟨w1.heap.size + 1, 0, none⟩) cs.length cs.length] := by
        rw [hW4]
        have h := Row.new ((w1.alloc (.cells #[.int .i64 cs.length, .slice PA P.length PC] 54)).alloc (.cells (zerosA (.slice none 0 0) (cs.length * 2)) 74)) 31 [.slice (some ⟨w1.heap.size + 1, 0, none⟩) cs.length cs.length]
        simp only [World.size_alloc] at h
        exact h
      have HSP4 := Lib.hid (HSP.out.up hx4)
      have HTB4 := Lib.hid (HTB.out.up hx4.below)
      have hbb := HB1.out.size
      have hbt := HTB.out.lt
      have HB4 := Lib.hid (Below.then HB1.out hx4.below hbb)
      rw [← hW4]
      clear hW4 hx4 HSP HTB HB1 hmk HMK
      refine (rlRows_any (cs.length : Nat) PA PC P W4 HSP4.out HPO.out (by omega)).mono ?_
      rintro e w5 ⟨g, rfl, hmade, hb5⟩
      have hmd : ∀ k (hk : k < P.length), ∃ A' C', w5.cell? ⟨g, k, none⟩ = some (.slice A' P[k].length C') ∧ HR (fun b => b ≠ w1.heap.size + 1) w5.heap.size w5 (.slice A' P[k].length C') P[k] := fun k hk => by
        obtain ⟨hs, m1, m2, m3, m4⟩ := hmade
        obtain ⟨A', C', a1, a2, a3, a4, a5⟩ := m4 k hk hk
        refine ⟨A', C', by rw [m1.cell]; exact a1, A', C', rfl, a2, a3, a4, fun hy ad e => ?_⟩
        have := (a5 hy ad e).2.1
        show ad.block ≠ _
        omega
      have hgl : g < w5.heap.size := hmade.lt
      have hgB : W4.heap.size ≤ g := by obtain ⟨hs, m1, m2, m3, m4⟩ := hmade; exact m3
      have hl5 := hl4.up hb5
      have ht5 := ht4.up hb5
      have HBL0 : Hid (BldM w5.heap.size (fun _ => True) w5 (w1.heap.size + 1) cs.length (vsB cs.length P 0) (fsB cs.length P 0)) := by
        show OwnAll _ _ _ _ _ _ _
        rw [vsB_zero, fsB_zero]
        exact BldM.start hl5 hl5.lt (Nat.le_refl _)
      have HT5 := Lib.hid ht5
      have HTB5 := Lib.hid (HTB4.out.up hb5)
      have HB5 := Lib.hid (Below.then HB4.out hb5 (by omega))
      have HMD := Lib.hid hmd
      have hz5 := hb5.size
      clear hmade hb5 hl4 ht4 hl5 ht5 hmd HB4 HTB4 HSP4
      generalize hlbv : w1.heap.size + 1 = lb at *
      have htg : lb + 1 < w5.heap.size := by omega
      have hgne : lb < g := by omega
      have hz4' : lb < w5.heap.size := by omega
      have hwb : w.heap.size + 1 < lb := by omega
      clear hlbv hz4
      go_wp2
      go_loopw [11, 55] (fun a m wr => ∃ k : Nat, k ≤ P.length ∧ m = .int .i64 k ∧ HR (fun b => b ≠ lb) w5.heap.size w5 a (lastOf P k) ∧ BldM w5.heap.size (fun _ => True) wr lb cs.length (vsB cs.length P k) (fsB cs.length P k) ∧ KeepX w5.heap.size lb w5 wr) (fun _ m _ => P.length - (intOf m).toNat)
      case atStart =>
        refine ⟨0, Nat.zero_le _, rfl, ⟨none, 0, rfl, Nat.zero_le _, by omega, SlR.nil, fun h => absurd rfl h⟩, HBL0.out, KeepX.refl _ _ _⟩
      case round =>
        obtain ⟨k, hka, rfl, hlast, hbld, hkeep⟩ := hrel
        have hzz := hkeep.2.2.2.1
        have HLAST := Lib.hid hlast
        have HBLD := Lib.hid hbld
        have HKEEP := Lib.hid hkeep
        have t0 : wr.cell? ⟨lb + 1, 0, none⟩ = some (.slice (some ⟨lb, 0, none⟩) cs.length cs.length) := (hkeep.cell (p := ⟨lb + 1, 0, none⟩) htg (by show lb + 1 ≠ lb; omega)).trans (HT5.out.cell 0)
        obtain ⟨LA, LC, rfl, hl1, hl2, hl3, hl4⟩ := hlast
        clear hbld hkeep HBL0
        by_cases h1 : k < P.length
        · obtain ⟨A', C', d1, hhr⟩ := HMD.out k h1
          have d1 := (HKEEP.out.cell (p := ⟨g, k, none⟩) hgl (by show g ≠ lb; omega)).trans d1
          have HHR := Lib.hid hhr
          obtain ⟨A2, C2, e2, b1, b2, b3, b4⟩ := hhr
          injection e2 with e2 _ e3
          subst e2 e3
          have hw1 : IntKind.i64.wrap ((k : Int) + 1) = (k : Int) + 1 := IntWalk.i64_in _ (by omega)
          have HPK : Hid (P[k].length = cs.length) := HPD.out _ (List.getElem_mem h1)
          have hpk1 : P[k].length ≤ cs.length := Nat.le_of_eq HPK.out
          have hpk2 : cs.length ≤ P[k].length := Nat.le_of_eq HPK.out.symm
          have hll := lastOf_len HPD.out k
          go_wp2_with fail
          have HSH : Hid (∀ W, Ext wr W → Calls Try.prog 44 #[.slice LA (lastOf P k).length LC, .slice A' P[k].length C'] W fun e w' => e = .returned (.int .i64 (RL.sharedN (lastOf P k) P[k])) ∧ Ext W w') := fun W hW => by
            have hk1 : ∀ p : Addr, p.block < w5.heap.size → p.block ≠ lb → W.cell? p = w5.cell? p := fun p hp hn => (hW.below.cell (by omega)).trans (HKEEP.out.cell hp hn)
            refine trShared_any LA A' LC C' (lastOf P k) P[k] W ((SlR.keepP (P := fun b => b ≠ lb) hl3 hl4 hk1).more (by have := hW.size; omega)) ((SlR.keepP (P := fun b => b ≠ lb) b3 b4 hk1).more (by have := hW.size; omega)) (by omega) (by omega)
          refine wp_region_held_drew (S := (fun w' => w'.cell? ⟨lb + 1, 0, none⟩ = some (.slice (some ⟨lb, 0, none⟩) cs.length cs.length))) (by kernel_rfl) t0 (fun hHeld => ?_)
          refine takeOp (i := 0) (v := ?_) (some 59) rfl rfl (by kernel_rfl) (by kernel_rfl) (by kernel_rfl) (fun _ _ _ h => h) (Or.inl ⟨by rfl, ?_⟩) (by assumption) ?_
          rotate_left 1
          · (intro w0 hSw; (try dsimp only at hSw); go_simp; try (with_reducible rfl))
          try simp only [Act.put]
          try simp only [List.setIfInBounds_toArray]
          try simp only [List.set_cons_succ]
          try simp only [List.set_cons_zero]
          refine takeOp (i := 1) (v := ?_) (some 60) rfl rfl (by kernel_rfl) (by kernel_rfl) (by kernel_rfl) (fun _ _ _ h => h) (Or.inl ⟨by rfl, ?_⟩) (by assumption) ?_
          rotate_left 1
          · (intro w0 hSw; (try dsimp only at hSw); go_simp; try (with_reducible rfl))
          try simp only [Act.put]
          try simp only [List.setIfInBounds_toArray]
          try simp only [List.set_cons_succ]
          try simp only [List.set_cons_zero]
          refine takeOp (i := 2) (v := ?_) (some 61) rfl rfl (by kernel_rfl) (by kernel_rfl) (by kernel_rfl) (fun _ _ _ h => h) (Or.inl ⟨by rfl, ?_⟩) (by assumption) ?_
          rotate_left 1
          · (intro w0 hSw; (try dsimp only at hSw); go_simp; try (with_reducible rfl))
          try simp only [Act.put]
          try simp only [List.setIfInBounds_toArray]
          try simp only [List.set_cons_succ]
          try simp only [List.set_cons_zero]
          refine takeOp (i := 3) (v := ?_) (some 62) rfl rfl (by kernel_rfl) (by kernel_rfl) (by kernel_rfl) (fun _ _ _ h => h) (Or.inl ⟨by rfl, ?_⟩) (by assumption) ?_
          rotate_left 1
          · (intro w0 hSw; (try dsimp only at hSw); go_simp; try (with_reducible rfl))
          try simp only [Act.put]
          try simp only [List.setIfInBounds_toArray]
          try simp only [List.set_cons_succ]
          try simp only [List.set_cons_zero]
          refine wpAnyH_ready (rs := [4]) (by kernel_rfl) (by simp) ?_
          refine AllReadyH.cons rfl (fun K hK => ?_) AllReadyH.nil
          go_simp
          refine (HSH.out _ (Ext.refl wr).drew).mono ?_
          rintro e w6 ⟨rfl, hx0⟩
          have hx : Ext wr w6 := (Ext.refl wr).drew.trans hx0
          have KEEP : w6.cell? ⟨lb + 1, 0, none⟩ = some (.slice (some ⟨lb, 0, none⟩) cs.length cs.length) := (hx.cell (by omega)).trans t0
          have HX6 := Lib.hid hx
          clear hx hx0
          go_wp2_with fail
          refine hK.out _ _ KEEP (fun hHeld => ?_)
          clear hK K
          try simp only [Act.put]
          try simp only [List.setIfInBounds_toArray]
          try simp only [List.set_cons_succ]
          try simp only [List.set_cons_zero]
          refine wpAnyH_ready (rs := [5]) (by kernel_rfl) (by simp) ?_
          refine AllReadyH.cons rfl (fun K hK => ?_) AllReadyH.nil
          go_simp
          have hsle := RL.sharedN_le (lastOf P k) P[k]
          refine (trAdd_any w5.heap.size lb cs.length cs.length (vsB cs.length P k) (fsB cs.length P k) A' C' (RL.sharedN (lastOf P k) P[k]) P[k] w6 (OwnAll.up HBLD.out HX6.out.below) (HHR.out.keep (fun p hp hn => (HX6.out.below.cell (by omega)).trans (HKEEP.out.cell hp hn))) HPK.out (by omega) hcl (fun l => by have := vsB_len cs.length P k l; omega) (fun l => by have := fsB_len cs.length P k l; omega)).mono ?_
          rintro e w7 ⟨rfl, hbld7, hkeep7⟩
          have KEEP2 : w7.cell? ⟨lb + 1, 0, none⟩ = some (.slice (some ⟨lb, 0, none⟩) cs.length cs.length) := (hkeep7.cell (p := ⟨lb + 1, 0, none⟩) htg (by show lb + 1 ≠ lb; omega)).trans KEEP
          have HBLD7 := Lib.hid hbld7
          have HKEEP7 := Lib.hid hkeep7
          clear hbld7 hkeep7
          go_wp2_with fail
          refine hK.out _ _ KEEP2 (fun hHeld => ?_)
          clear hK K
          try simp only [Act.put]
          try simp only [List.setIfInBounds_toArray]
          try simp only [List.set_cons_succ]
          try simp only [List.set_cons_zero]
          refine wpAnyH_done (by kernel_rfl) ?_ _
          go_wp2
          go_roundw
          case rel =>
            refine ⟨k + 1, by omega, by go_num, ?_, ?_, HKEEP.out.trans ((KeepX.below HX6.out.below hzz).trans HKEEP7.out)⟩
            · rw [take_last h1]; exact HHR.out
            · have h := HBLD7.out
              rw [vsB_step HSS.out HPD.out h1] at h
              exact h.congr (fun _ _ => rfl) (fsB_step HSS.out HPD.out h1)
          case measure => simp [intOf]; omega
        · obtain rfl : k = P.length := by omega
          have HBLD1 : Hid (BldM w5.heap.size (fun _ => True) wr lb cs.length (vsF cs.length P) (fsH cs.length P 0)) := by
            have h := HBLD.out
            rw [vsB_all] at h
            exact h
          clear HBLD HLAST HMD hl1 hl2 hl3 hl4
          obtain ⟨wq, hwq⟩ : ∃ wq, wq = wr := ⟨_, rfl⟩
          subst hwq
          go_wp2
          have HNODES : Hid (∀ l, (RL.nodes cs.length P l).length ≤ P.length) := RL.nodes_len cs.length P
          have HFB : Hid (∀ l, (fsB cs.length P P.length l).length ≤ P.length) := fsB_len cs.length P P.length
          clear t0
          go_loopw [70] (fun m wr => ∃ k : Nat, k ≤ cs.length ∧ m = .int .i64 k ∧ BldM w5.heap.size (fun _ => True) wr lb cs.length (vsF cs.length P) (fsH cs.length P k) ∧ KeepX w5.heap.size lb w5 wr) (fun m _ => cs.length - (intOf m).toNat)
          case atStart => exact ⟨0, Nat.zero_le _, rfl, HBLD1.out, HKEEP.out⟩
          case round =>
            obtain ⟨k, hka2, rfl, hbld, hkeep⟩ := hrel
            have hzz2 := hkeep.2.2.2.1
            have HBLD := Lib.hid hbld
            have HK2 := Lib.hid hkeep
            have t0 : wr.cell? ⟨lb + 1, 0, none⟩ = some (.slice (some ⟨lb, 0, none⟩) cs.length cs.length) := (hkeep.cell (p := ⟨lb + 1, 0, none⟩) htg (by show lb + 1 ≠ lb; omega)).trans (HT5.out.cell 0)
            have p4 : wr.cell? ⟨w.heap.size + 1, 0, none⟩ = some (.slice none 0 0) := (hkeep.cell (p := ⟨w.heap.size + 1, 0, none⟩) (by show w.heap.size + 1 < _; omega) (by show w.heap.size + 1 ≠ lb; omega)).trans (HTB5.out.cell 0)
            clear hbld hkeep HBLD1 HKEEP
            by_cases h1 : k < cs.length
            rotate_left
            · have hkc : k = cs.length := by omega
              have HTR : Hid (∀ W, W = wr.setCell ⟨w.heap.size + 1, 0, none⟩ (.slice (some ⟨lb, 0, none⟩) cs.length cs.length) → TrM W.heap.size W (some ⟨lb, 0, none⟩) cs.length (vsF cs.length P) (fsF cs.length P)) := fun W hW => by
                have h : BldM w5.heap.size (fun _ => True) wr lb cs.length (vsF cs.length P) (fsF cs.length P) := HBLD.out.congr (fun _ _ => rfl) (fun l hl => by unfold fsH; rw [if_pos (by omega)])
                have hs : W.heap.size = wr.heap.size := by rw [hW]; simp
                intro l hl
                obtain ⟨hs0, r1, r2, r3, r3', r4, r5, r6⟩ := h
                have h2 : BldM w5.heap.size (fun _ => True) W lb cs.length (vsF cs.length P) (fsF cs.length P) := by
                  rw [hW]
                  refine ⟨hs0, r1.far (by show lb ≠ w.heap.size + 1; omega) _, r2, r3, by simpa using r3', fun i u hu => own_far (r4 i u hu) (fun e => by have := own_base (r4 i u hu) e; simp only at this; omega) _, r5, r6⟩
                exact BldM.tr h2 l hl
              have hrr : Row wr (w.heap.size + 1) 31 [.slice none 0 0] := (HK2.out.2.2.2.2 (w.heap.size + 1) (by omega) (by omega)).trans HTB5.out
              have f0 := hrr.frozen 0
              have z0 := (hrr.set 0 (.slice (some ⟨lb, 0, none⟩) cs.length cs.length)).cell 0
              simp only [List.set_cons_zero, List.getElem?_cons_zero] at z0
              have HBW : Hid (Below w.heap.size w wr) := Below.then HB5.out (⟨HK2.out.1, HK2.out.2.1, HK2.out.2.2.1, HK2.out.2.2.2.1, fun b hb => HK2.out.2.2.2.2 b (by omega) (by omega)⟩ : Below w.heap.size w5 wr) (Nat.le_refl _)
              have hge : ¬ k < cs.length := h1
              clear hrr
              go_wp2
              exact bodyPost_ret (v := .tuple #[.agg #[.slice (some ⟨lb, 0, none⟩) cs.length cs.length], .int .i64 0]) (by simp [results, Try.results25, go_sem, z0]) rfl (HNP.out _ _ _ _ rfl (HTR.out _ rfl) (HBW.out.setCell (by simp) _))
            obtain ⟨f, cf, of, qf, ff⟩ := OwnAll.at_ HBLD.out (show k * 2 + 1 < cs.length * 2 by omega)
            rw [spF_f, fsH_at] at of
            have HSZ : Hid (∀ W, Ext wr W → Calls Try.prog 32 #[.agg #[.slice (some ⟨lb, 0, none⟩) cs.length cs.length], .int .i64 ((k : Int) + 1)] W fun e w' => e = .returned (.int .i64 (RL.nodes cs.length P (k + 1)).length) ∧ Ext W w') := fun W hW => by
              have h := trSize_any wr.heap.size (some ⟨lb, 0, none⟩) cs.length cs.length (vsF cs.length P) (fsH cs.length P k) (k + 1) W ((BldM.tr HBLD.out).below hW.below (Nat.le_refl _)) hW.size (by omega) (by omega)
              have e1 : sizeF cs.length (vsF cs.length P) (k + 1) = (RL.nodes cs.length P (k + 1)).length := by
                unfold sizeF
                rw [vsF_len]
                split
                · rfl
                · rw [RL.nodes_out (by omega)]; rfl
              rw [e1] at h
              exact h
            have hlw3 : lb < wr.heap.size := by omega
            have htw3 : lb + 1 < wr.heap.size := by omega
            have HOF := Lib.hid of
            have HQF : Hid (∀ j, f.ownBlock = some j → w5.heap.size ≤ j) := fun j hj => own_base of hj
            have hfk := HFB.out k
            have hw1 : IntKind.i64.wrap ((k : Int) + 1) = (k : Int) + 1 := IntWalk.i64_in _ (by omega)
            obtain ⟨q, hq⟩ : ∃ q, q = (RL.nodes cs.length P (k + 1)).length := ⟨_, rfl⟩
            have HN : Hid ((RL.nodes cs.length P (k + 1)).length = q) := hq.symm
            rw [← hq] at HSZ
            clear of qf hq p4
            go_wp2
            refine regionZ (S := (fun w' => w'.cell? ⟨lb + 1, 0, none⟩ = some (.slice (some ⟨lb, 0, none⟩) cs.length cs.length) ∧ w'.cell? ⟨lb, k * 2 + 1, none⟩ = some f)) 17 (by kernel_rfl) ⟨t0, cf⟩ (fun hHeld => ?_)
            refine takeZ (i := 0) (v := ?_) (some 73) rfl rfl (by kernel_rfl) (by decide) (by kernel_rfl) (by kernel_rfl) (by kernel_rfl) (by kernel_rfl) (fun _ _ _ h => h) (Or.inl ⟨by rfl, ?_⟩) (by assumption) ?_
            rotate_left 1
            · (intro w0 hSw; (try dsimp only at hSw); go_simp; try (with_reducible rfl))
            try simp only [Act.put]
            try simp only [List.setIfInBounds_toArray]
            try simp only [List.set_cons_succ]
            try simp only [List.set_cons_zero]
            refine takeZ (i := 1) (v := ?_) (some 74) rfl rfl (by kernel_rfl) (by decide) (by kernel_rfl) (by kernel_rfl) (by kernel_rfl) (by kernel_rfl) (fun _ _ _ h => h) (Or.inl ⟨by rfl, ?_⟩) (by assumption) ?_
            rotate_left 1
            · (intro w0 hSw; (try dsimp only at hSw); go_simp; try (with_reducible rfl))
            try simp only [Act.put]
            try simp only [List.setIfInBounds_toArray]
            try simp only [List.set_cons_succ]
            try simp only [List.set_cons_zero]
            refine takeZ (i := 2) (v := ?_) (some 75) rfl rfl (by kernel_rfl) (by decide) (by kernel_rfl) (by kernel_rfl) (by kernel_rfl) (by kernel_rfl) (fun _ _ _ h => h) (Or.inl ⟨by rfl, ?_⟩) (by assumption) ?_
            rotate_left 1
            · (intro w0 hSw; (try dsimp only at hSw); go_simp; try (with_reducible rfl))
            try simp only [Act.put]
            try simp only [List.setIfInBounds_toArray]
            try simp only [List.set_cons_succ]
            try simp only [List.set_cons_zero]
            refine takeZ (i := 3) (v := ?_) (some 76) rfl rfl (by kernel_rfl) (by decide) (by kernel_rfl) (by kernel_rfl) (by kernel_rfl) (by kernel_rfl) (fun _ _ _ h => h) (Or.inl ⟨by rfl, ?_⟩) (by assumption) ?_
            rotate_left 1
            · (intro w0 hSw; (try dsimp only at hSw); go_simp; try (with_reducible rfl))
            try simp only [Act.put]
            try simp only [List.setIfInBounds_toArray]
            try simp only [List.set_cons_succ]
            try simp only [List.set_cons_zero]
            refine takeZ (i := 4) (v := ?_) (some 77) rfl rfl (by kernel_rfl) (by decide) (by kernel_rfl) (by kernel_rfl) (by kernel_rfl) (by kernel_rfl) (fun _ _ _ h => h) (Or.inl ⟨by rfl, ?_⟩) (by assumption) ?_
            rotate_left 1
            · (intro w0 hSw; (try dsimp only at hSw); go_simp; try (with_reducible rfl))
            try simp only [Act.put]
            try simp only [List.setIfInBounds_toArray]
            try simp only [List.set_cons_succ]
            try simp only [List.set_cons_zero]
            refine takeZ (i := 5) (v := ?_) (some 78) rfl rfl (by kernel_rfl) (by decide) (by kernel_rfl) (by kernel_rfl) (by kernel_rfl) (by kernel_rfl) (fun _ _ _ h => h) (Or.inl ⟨by rfl, ?_⟩) (by assumption) ?_
            rotate_left 1
            · (intro w0 hSw; (try dsimp only at hSw); go_simp; try (with_reducible rfl))
            try simp only [Act.put]
            try simp only [List.setIfInBounds_toArray]
            try simp only [List.set_cons_succ]
            try simp only [List.set_cons_zero]
            refine takeZ (i := 6) (v := ?_) (some 79) rfl rfl (by kernel_rfl) (by decide) (by kernel_rfl) (by kernel_rfl) (by kernel_rfl) (by kernel_rfl) (fun _ _ _ h => h) (Or.inl ⟨by rfl, ?_⟩) (by assumption) ?_
            rotate_left 1
            · (intro w0 hSw; (try dsimp only at hSw); go_simp; try (with_reducible rfl))
            try simp only [Act.put]
            try simp only [List.setIfInBounds_toArray]
            try simp only [List.set_cons_succ]
            try simp only [List.set_cons_zero]
            refine takeZ (i := 7) (v := ?_) (some 80) rfl rfl (by kernel_rfl) (by decide) (by kernel_rfl) (by kernel_rfl) (by kernel_rfl) (by kernel_rfl) (fun _ _ _ h => h) (Or.inl ⟨by rfl, ?_⟩) (by assumption) ?_
            rotate_left 1
            · (intro w0 hSw; (try dsimp only at hSw); go_simp; try (with_reducible rfl))
            try simp only [Act.put]
            try simp only [List.setIfInBounds_toArray]
            try simp only [List.set_cons_succ]
            try simp only [List.set_cons_zero]
            refine takeZ (i := 8) (v := ?_) (some 81) rfl rfl (by kernel_rfl) (by decide) (by kernel_rfl) (by kernel_rfl) (by kernel_rfl) (by kernel_rfl) (fun _ _ _ h => h) (Or.inl ⟨by rfl, ?_⟩) (by assumption) ?_
            rotate_left 1
            · (intro w0 hSw; (try dsimp only at hSw); go_simp; try (with_reducible rfl))
            try simp only [Act.put]
            try simp only [List.setIfInBounds_toArray]
            try simp only [List.set_cons_succ]
            try simp only [List.set_cons_zero]
            refine takeZ (i := 9) (v := ?_) (some 82) rfl rfl (by kernel_rfl) (by decide) (by kernel_rfl) (by kernel_rfl) (by kernel_rfl) (by kernel_rfl) (fun _ _ _ h => h) (Or.inl ⟨by rfl, ?_⟩) (by assumption) ?_
            rotate_left 1
            · (intro w0 hSw; (try dsimp only at hSw); go_simp; try (with_reducible rfl))
            try simp only [Act.put]
            try simp only [List.setIfInBounds_toArray]
            try simp only [List.set_cons_succ]
            try simp only [List.set_cons_zero]
            refine takeZ (i := 10) (v := ?_) (some 83) rfl rfl (by kernel_rfl) (by decide) (by kernel_rfl) (by kernel_rfl) (by kernel_rfl) (by kernel_rfl) (fun _ _ _ h => h) (Or.inl ⟨by rfl, ?_⟩) (by assumption) ?_
            rotate_left 1
            · (intro w0 hSw; (try dsimp only at hSw); go_simp; try (with_reducible rfl))
            try simp only [Act.put]
            try simp only [List.setIfInBounds_toArray]
            try simp only [List.set_cons_succ]
            try simp only [List.set_cons_zero]
            refine takeZ (i := 11) (v := ?_) (some 84) rfl rfl (by kernel_rfl) (by decide) (by kernel_rfl) (by kernel_rfl) (by kernel_rfl) (by kernel_rfl) (fun _ _ _ h => h) (Or.inl ⟨by rfl, ?_⟩) (by assumption) ?_
            rotate_left 1
            · (intro w0 hSw; (try dsimp only at hSw); go_simp; try (with_reducible rfl))
            try simp only [Act.put]
            try simp only [List.setIfInBounds_toArray]
            try simp only [List.set_cons_succ]
            try simp only [List.set_cons_zero]
            refine oneZ (i := 12) (by kernel_rfl) rfl (by decide) (fun K hK => ?_)
            go_simp
            refine (HSZ.out _ (Ext.refl wr).drew).mono ?_
            rintro e w4 ⟨rfl, hx0⟩
            have hx : Ext wr w4 := (Ext.refl wr).drew.trans hx0
            have KEEP : w4.cell? ⟨lb + 1, 0, none⟩ = some (.slice (some ⟨lb, 0, none⟩) cs.length cs.length) ∧ w4.cell? ⟨lb, k * 2 + 1, none⟩ = some f := ⟨(hx.cell htw3).trans t0, (hx.cell hlw3).trans cf⟩
            have HX4 := Lib.hid hx
            clear hx hx0
            go_wp2_with fail
            refine hK.out _ _ KEEP (fun hHeld => ?_)
            clear hK K
            try simp only [Act.put]
            try simp only [List.setIfInBounds_toArray]
            try simp only [List.set_cons_succ]
            try simp only [List.set_cons_zero]
            refine oneZ (i := 13) (by kernel_rfl) rfl (by decide) (fun K hK => ?_)
            go_simp
            have hxa : Ext wr (w4.alloc (.cells #[.int .i64 (q : Int)] 3)) := HX4.out.alloc _
            have KEEP1 := (⟨(hxa.cell htw3).trans t0, (hxa.cell hlw3).trans cf⟩ : _ ∧ _)
            have KEEP2K := Lib.hid KEEP1.2
            clear hxa
            refine hK.out _ _ KEEP1 (fun hHeld => ?_)
            clear hK K
            try simp only [Act.put]
            try simp only [List.setIfInBounds_toArray]
            try simp only [List.set_cons_succ]
            try simp only [List.set_cons_zero]
            refine oneZ (i := 14) (by kernel_rfl) rfl (by decide) (fun K hK => ?_)
            refine stepI (w := w4.alloc (.cells #[.int .i64 (q : Int)] 3)) rfl (.tmp 81) (.tmp 86) rfl w5.heap.size f (fsB cs.length P P.length k) (by simp [Act.eval]) (own_keep HOF.out (HX4.out.alloc _).below) w4.heap.size q (by simp [Act.eval]) (Row.new w4 3 [.int .i64 (q : Int)]) (by omega) (by have := HX4.out.size; simp; omega) ?_
            intro ng cap w2 hown2 hg2 hat2
            have hza := (HX4.out.alloc (.cells #[.int .i64 (q : Int)] 3)).size
            have KEEP2 : w2.cell? ⟨lb + 1, 0, none⟩ = some (.slice (some ⟨lb, 0, none⟩) cs.length cs.length) ∧ w2.cell? ⟨lb, k * 2 + 1, none⟩ = some f :=
              ⟨(grown_cell hg2 (p := ⟨lb + 1, 0, none⟩) (Nat.lt_of_lt_of_le htw3 hza) (fun e => by have := HQF.out _ e.symm; simp only at this; omega)).trans KEEP1.1, (grown_cell hg2 (p := ⟨lb, k * 2 + 1, none⟩) (Nat.lt_of_lt_of_le hlw3 hza) (fun e => by have := HQF.out _ e.symm; simp only at this; omega)).trans KEEP1.2⟩
            have hf2 : w2.frozen? ⟨lb, k * 2 + 1, none⟩ = false := by
              have h := OwnAll.up HBLD.out (HX4.out.alloc (.cells #[.int .i64 (q : Int)] 3)).below
              obtain ⟨hs, q1, -, -, -, -, -, -⟩ := h
              exact (q1.grown hg2 (fun e => by have := HQF.out _ e.symm; omega)).frozen _
            have HOWN2 := Lib.hid hown2
            have HG2 := Lib.hid hg2
            have HAT2 := Lib.hid hat2
            clear hown2 hg2 hat2 hza
            refine hK.out _ _ KEEP2 (fun hHeld => ?_)
            clear hK K
            try simp only [Act.put]
            try simp only [List.setIfInBounds_toArray]
            try simp only [List.set_cons_succ]
            try simp only [List.set_cons_zero]
            refine takeZ (i := 15) (v := ?_) (some 88) rfl rfl (by kernel_rfl) (by decide) (by kernel_rfl) (by kernel_rfl) (by kernel_rfl) (by kernel_rfl) (fun _ _ _ h => h) (Or.inl ⟨by rfl, ?_⟩) (by assumption) ?_
            rotate_left 1
            · (intro w0 hSw; (try dsimp only at hSw); go_simp; try (with_reducible rfl))
            try simp only [Act.put]
            try simp only [List.setIfInBounds_toArray]
            try simp only [List.set_cons_succ]
            try simp only [List.set_cons_zero]
            refine takeZ (i := 16) (v := ?_) (some 89) rfl rfl (by kernel_rfl) (by decide) (by kernel_rfl) (by kernel_rfl) (by kernel_rfl) (by kernel_rfl) (fun _ _ _ h => h) (Or.inl ⟨by rfl, ?_⟩) (by assumption) ?_
            rotate_left 1
            · (intro w0 hSw; (try dsimp only at hSw); go_simp; try (with_reducible rfl))
            try simp only [Act.put]
            try simp only [List.setIfInBounds_toArray]
            try simp only [List.set_cons_succ]
            try simp only [List.set_cons_zero]
            refine lastZ (by kernel_rfl) rfl (by kernel_rfl) (fun K hK => ?_)
            go_simp
            go_wp2_with fail
            refine hK.out _ _ ?_
            clear hK K
            try simp only [Act.put]
            try simp only [List.setIfInBounds_toArray]
            try simp only [List.set_cons_succ]
            try simp only [List.set_cons_zero]
            go_wp2
            go_roundw
            case rel =>
              have hx5 : Ext wr (w4.alloc (.cells #[.int .i64 (q : Int)] 3)) := HX4.out.alloc _
              refine ⟨k + 1, by omega, by go_num, ?_, ?_⟩
              · rw [fsH_step]
                refine OwnAll.put (OwnAll.up HBLD.out hx5.below) KEEP2K.out (spF_updf _ _ _ _) ?_ HG2.out (fun j hj => ?_) (fun _ _ => trivial)
                · rw [spF_f, upd_self, List.length_append, HN.out]
                  exact HOWN2.out
                · injection hj with hj
                  subst hj
                  rcases HAT2.out with h | h
                  · exact .inl h
                  · exact .inr (by rw [h]; exact Nat.le_refl _)
              · exact ((HK2.out.trans (KeepX.below hx5.below (by omega))).trans (KeepX.grown HG2.out (Nat.le_trans (by omega) hx5.size) (fun j hj => HQF.out j hj))).trans (KeepX.set w2 _ _)
            case measure => simp [intOf]; omega

end Go.Proofs.Ytlcammcifjihpaa
end

/- Parts of the proof, merged: Y7, Y8, Y9, Y10. -/
import Derived.Test.YtiomelogggilgaaQ7
import Derived.Test.YtiomelogggilgaaQ3
import Derived.Deep.DeepCutAuto
import Derived.Deep.CutBlock
import Derived.Deep.LoopGhost
import Derived.Test.YtiomelogggilgaaQ6

section
/- Walk: leapfrog's extend. -/
namespace Go.Proofs.Ytiomelogggilgaa
open Go.RowKit Go.Sort

/-- The rows below the first t values. -/
def rowsT (l : List At) (m : Nat) (x : RL.R) (t : Nat) : List RL.R := ((candF l x).take t).flatMap fun c => joinN l m (x ++ [c])
theorem rowsT_zero (l : List At) (m : Nat) (x : RL.R) : rowsT l m x 0 = [] := by simp [rowsT]
theorem rowsT_succ {l : List At} {m : Nat} {x : RL.R} {t : Nat} (h : t < (candF l x).length) : rowsT l m x (t + 1) = rowsT l m x t ++ joinN l m (x ++ [(candF l x)[t]]) := by
  unfold rowsT
  rw [List.take_succ_eq_append_getElem h, List.flatMap_append, List.flatMap_singleton]
theorem rowsT_all (l : List At) (m : Nat) (x : RL.R) : rowsT l m x (candF l x).length = joinN l (m + 1) x := by unfold rowsT; rw [List.take_length]; rfl
theorem rowsT_rest (l : List At) (m : Nat) (x : RL.R) (t : Nat) : ∃ r, joinN l (m + 1) x = rowsT l m x t ++ r := by
  refine ⟨((candF l x).drop t).flatMap fun c => joinN l m (x ++ [c]), ?_⟩
  unfold rowsT
  rw [← List.flatMap_append, List.take_append_drop]
  rfl
/-- What the rows so far have done, and what the next ones do. -/
theorem feed_step {go : List RL.R → Bool} {L : List RL.R} {l : List At} {m : Nat} {x : RL.R} {t : Nat} (h : t < (candF l x).length) (h2 : (feed go L (rowsT l m x t)).2 = true) :
    feed go L (rowsT l m x (t + 1)) = feed go (feed go L (rowsT l m x t)).1 (joinN l m (x ++ [(candF l x)[t]])) := by
  rw [rowsT_succ h, feed_append, if_pos h2]
theorem feed_stop {go : List RL.R → Bool} {L : List RL.R} {l : List At} {m : Nat} {x : RL.R} {t : Nat} (h2 : (feed go L (rowsT l m x t)).2 = false) : feed go L (joinN l (m + 1) x) = feed go L (rowsT l m x t) := by
  obtain ⟨r, e⟩ := rowsT_rest l m x t
  rw [e, feed_append, if_neg (by rw [h2]; simp)]
theorem rowsT_le (l : List At) (m : Nat) (x : RL.R) (t : Nat) : (rowsT l m x t).length ≤ (joinN l (m + 1) x).length := by
  obtain ⟨r, e⟩ := rowsT_rest l m x t
  rw [e, List.length_append]
  exact Nat.le_add_right _ _

section
variable {E : Eng} {O0 : Nat → Prop} {W0 : World} {M : Nat} (hE : E.Ok O0 W0 M)
include hE
theorem Eng.cand_le (x : RL.R) : (candF E.I.l x).length ≤ M := by
  unfold candF
  cases hq : atsV E.I.l x.length with
  | nil => exact Nat.zero_le _
  | cons a t =>
    have ha : a ∈ E.I.l := by have : a ∈ atsV E.I.l x.length := by rw [hq]; simp
                              unfold atsV at this; exact (List.mem_filter.1 this).1
    obtain ⟨i, hi, rfl⟩ := List.getElem_of_mem ha
    have e : E.I.a i = E.I.l[i] := by unfold Its.a; rw [List.getD_eq_getElem?_getD, List.getElem?_eq_getElem hi]; rfl
    have h := hE.M i hi (pj E.I.l[i] x)
    rw [e] at h
    exact Nat.le_trans (List.length_filter_le _ _) h
/-- Where the iterators stand when the next variable has a value that all allow. -/
theorem Eng.plc_snoc {x : RL.R} {p : Nat → Nat} {t : Nat} (hx : x.length < E.n) (hf : Fnd (E.I.K fun i => pj (E.I.a i) x) (idxV E.I.l x.length) (candF E.I.l x) p t) (ht : t < (candF E.I.l x).length) {i : Nat} (hi : i < E.I.l.length) :
    E.plc (x ++ [(candF E.I.l x)[t]]) i = plJ (idxV E.I.l x.length) (fun i => pj (E.I.a i) x) p (E.plc x) i := by
  have ha := Eng.a_ok hE hi
  have hne : atsV E.I.l x.length ≠ [] := atsV_ne hE.used hx
  unfold Eng.plc plJ
  rw [pj_snoc ha.asc]
  obtain ⟨h1, h2⟩ := hf
  by_cases hv : x.length ∈ (E.I.a i).vs
  · have hJ : i ∈ idxV E.I.l x.length := mem_idxV.2 ⟨hi, hv⟩
    have hc := (mem_cand_idx hne (candF E.I.l x)[t]).1 (List.getElem_mem ht) i hJ
    rw [if_pos hv, if_pos hJ, plcQ_snoc ha.len hc, h2 i hJ]
    rfl
  · have hJ : i ∉ idxV E.I.l x.length := fun h => hv (mem_idxV.1 h).2
    rw [if_neg hv, if_neg hJ]
end

/-- What holds behind the values of a variable. -/
def MidP (E : Eng) (O0 : Nat → Prop) (W0 : World) (go : List RL.R → Bool) (Inv : List RL.R → (Nat → Prop) → World → Prop) (cost : Nat) (X : List RL.R) (x : RL.R) (L : List RL.R) (st : Nat) (ss : Nat → Nat) (mo : Value) (w' : World) : Prop :=
  mo = .bool (feed go L X).2 ∧ ∃ (z' : RL.R) (st' : Nat) (ss' : Nat → Nat) (p' : Nat → Nat) (O' : Nat → Prop), E.St w' z' st' (plJ (idxV E.I.l x.length) (fun i => pj (E.I.a i) x) p' (E.plc x)) ss' ∧ z'.take x.length = x ∧ Inv (feed go L X).1 O' w' ∧ (∀ b, O' b → b < w'.heap.size ∧ (O0 b ∨ W0.heap.size ≤ b)) ∧ Chg (E.TF O0) W0 w' ∧
    st + ((feed go L X).1.length - L.length) ≤ st' ∧ st' ≤ st + cost ∧ ∀ i, i < E.I.l.length → ss' i ≤ ss i + cost * 200002
/-- What holds when t values of a variable have been gone through. -/
def LoopP (E : Eng) (O0 : Nat → Prop) (W0 : World) (go : List RL.R → Bool) (Inv : List RL.R → (Nat → Prop) → World → Prop) (m : Nat) (x : RL.R) (L : List RL.R) (st : Nat) (ss : Nat → Nat) (Wm D : Nat) (t : Nat) (w' : World) : Prop :=
  t ≤ (candF E.I.l x).length ∧ (feed go L (rowsT E.I.l m x t)).2 = true ∧ ∃ (z' : RL.R) (st' : Nat) (ss' : Nat → Nat) (p' : Nat → Nat) (O' : Nat → Prop), E.St w' z' st' (plJ (idxV E.I.l x.length) (fun i => pj (E.I.a i) x) p' (E.plc x)) ss' ∧ z'.take x.length = x ∧ Inv (feed go L (rowsT E.I.l m x t)).1 O' w' ∧ (∀ b, O' b → b < w'.heap.size ∧ (O0 b ∨ W0.heap.size ≤ b)) ∧ Chg (E.TF O0) W0 w' ∧
    (t < (candF E.I.l x).length → Fnd (E.I.K fun i => pj (E.I.a i) x) (idxV E.I.l x.length) (candF E.I.l x) p' t) ∧ st + ((feed go L (rowsT E.I.l m x t)).1.length - L.length) ≤ st' ∧ st' ≤ st + (Wm + t * D) ∧ ∀ i, i < E.I.l.length → ss' i ≤ ss i + (Wm + t * D) * 200002

theorem MidP.of_loop {E : Eng} {O0 : Nat → Prop} {W0 : World} {M : Nat} {go : List RL.R → Bool} {Inv : List RL.R → (Nat → Prop) → World → Prop} {m : Nat} {x : RL.R} {L : List RL.R} {st : Nat} {ss : Nat → Nat} {Wm c cost t : Nat} {w' : World} (hCM : (candF E.I.l x).length ≤ M) (hcost : cost = (M + 1) * (Wm + c)) (h : LoopP E O0 W0 go Inv m x L st ss Wm (Wm + c) t w') (ht : ¬ t < (candF E.I.l x).length) :
    MidP E O0 W0 go Inv cost (joinN E.I.l (m + 1) x) x L st ss (.bool true) w' := by
  obtain ⟨h1, h2, z', st', ss', p', O', h3, h4, h5, h6, h7, _, h8, h9, h10⟩ := h
  have he : t = (candF E.I.l x).length := by omega
  subst he
  rw [rowsT_all] at h2 h5 h8
  have hb : Wm + (candF E.I.l x).length * (Wm + c) ≤ cost := by
    have h11 := Nat.mul_le_mul_right (Wm + c) hCM
    rw [hcost, Nat.succ_mul]
    omega
  exact ⟨by rw [h2], z', st', ss', p', O', h3, h4, h5, h6, h7, h8, Nat.le_trans h9 (Nat.add_le_add_left hb _), fun i hi => Nat.le_trans (h10 i hi) (Nat.add_le_add_left (Nat.mul_le_mul_right _ hb) _)⟩

section
variable {E : Eng} {O0 : Nat → Prop} {W0 : World} {M : Nat} (hE : E.Ok O0 W0 M) {go : List RL.R → Bool} {Inv : List RL.R → (Nat → Prop) → World → Prop} {N : Nat} (hY : Yield E.yf E.cap go Inv N 64)
include hE hY

set_option maxHeartbeats 8000000 in
set_option maxRecDepth 100000 in
theorem lfExtend_step (m : Nat) (hrec : ∀ (x z : RL.R) (L : List RL.R) (O : Nat → Prop) (st : Nat) (ss : Nat → Nat) (w : World), x.length + m = E.n → z.take x.length = x → E.St w z st (E.plc x) ss → Chg (E.TF O0) W0 w → Inv L O w → (∀ b, O b → b < w.heap.size ∧ (O0 b ∨ W0.heap.size ≤ b)) → (∀ a ∈ E.I.l, preA a x) → L.length + (joinN E.I.l m x).length ≤ N →
      st + costN M (meetN 64 M) m ≤ 4000000000000000000 → (∀ i, i < E.I.l.length → ss i + costN M (meetN 64 M) m * 200002 ≤ 100000000000000000) →
      Calls Try.prog 53 #[.pointer (some ⟨E.jb, 0, none⟩), .int .i64 x.length] w (ExtPost E O0 W0 go Inv (costN M (meetN 64 M) m) (joinN E.I.l m x) x L st ss))
    (x z : RL.R) (L : List RL.R) (O : Nat → Prop) (st : Nat) (ss : Nat → Nat) (w : World) (hx : x.length + (m + 1) = E.n) (hz : z.take x.length = x) (hS : E.St w z st (E.plc x) ss) (hch : Chg (E.TF O0) W0 w) (hI : Inv L O w) (hO : ∀ b, O b → b < w.heap.size ∧ (O0 b ∨ W0.heap.size ≤ b)) (hpre : ∀ a ∈ E.I.l, preA a x) (hL : L.length + (joinN E.I.l (m + 1) x).length ≤ N)
    (hst : st + costN M (meetN 64 M) (m + 1) ≤ 4000000000000000000) (hss : ∀ i, i < E.I.l.length → ss i + costN M (meetN 64 M) (m + 1) * 200002 ≤ 100000000000000000) :
    Calls Try.prog 53 #[.pointer (some ⟨E.jb, 0, none⟩), .int .i64 x.length] w (ExtPost E O0 W0 go Inv (costN M (meetN 64 M) (m + 1)) (joinN E.I.l (m + 1) x) x L st ss) := by
  have hcost : costN M (meetN 64 M) (m + 1) = (M + 1) * (meetN 64 M + costN M (meetN 64 M) m) := rfl
  have hxn : x.length < E.n := by omega
  have hJne : idxV E.I.l x.length ≠ [] := by
    obtain ⟨a, ha, hv⟩ := hE.used x.length hxn
    obtain ⟨i, hi, rfl⟩ := List.getElem_of_mem ha
    intro e
    have : i ∈ idxV E.I.l x.length := mem_idxV.2 ⟨hi, by rw [List.getD_eq_getElem?_getD, List.getElem?_eq_getElem hi]; exact hv⟩
    rw [e] at this
    simp at this
  have hlp : 0 < (idxV E.I.l x.length).length := List.length_pos_iff.2 hJne
  have hJ64 : (idxV E.I.l x.length).length ≤ 64 := Nat.le_trans (idxV_len _ _) hE.l64
  have hCM := Eng.cand_le hE x
  have hsta := hE.stat w hch
  obtain ⟨ba, oa, hA, hba, hA0⟩ := Sl.at_ (hsta.at_ x.length hxn) (k := 0) (by simpa using hlp)
  have HPT : Hid (∀ (k : Nat) (W : World), Chg (E.TF O0) W0 W → k < (idxV E.I.l x.length).length → W.cell? ⟨ba, oa + k, none⟩ = some (.pointer (some ⟨E.I.g ((idxV E.I.l x.length).getD k 0), 0, none⟩)) ∧ ba < W.heap.size) := fun k W hW hk => by
    obtain ⟨b, o, e, hb, hc⟩ := Sl.at_ ((hE.stat W hW).at_ x.length hxn) (k := k) (by simpa using hk)
    rw [hA] at e
    injection e with e
    injection e with e1 e2
    subst e1 e2
    refine ⟨hc.trans ?_, hb⟩
    rw [List.getElem_map, List.getD_eq_getElem?_getD, List.getElem?_eq_getElem hk]
    rfl
  have hj0 : w.cell? ⟨E.jb, 0, none⟩ = some (.slice (some ⟨E.rb, 0, none⟩) E.n E.n) := hS.j.cell 0
  have hj1 : w.cell? ⟨E.jb, 1, none⟩ = some (.slice (some ⟨E.ab, 0, none⟩) E.n E.n) := hS.j.cell 1
  have hav : w.cell? ⟨E.ab, x.length, none⟩ = some (.slice (some ⟨ba, oa, none⟩) (idxV E.I.l x.length).length (E.atC x.length)) := by
    rw [hsta.ab.cell, List.getElem?_map, List.getElem?_range hxn, ← hA]
    rfl
  have hq : ((x.length : Int) == (E.n : Int)) = false := by rw [beq_eq_false_iff_ne]; omega
  have g1 : (0 : Int) ≤ (x.length : Int) := by omega
  have g2 : (x.length : Int) < (E.n : Int) := by omega
  have HX := Lib.hid hx
  have HZ := Lib.hid hz
  have HS := Lib.hid hS
  have HCH := Lib.hid hch
  have HI := Lib.hid hI
  have HO := Lib.hid hO
  have HPRE := Lib.hid hpre
  have HL := Lib.hid hL
  have HST := Lib.hid hst
  have HSS := Lib.hid hss
  have HE := Lib.hid hE
  have HY := Lib.hid hY
  have HREC := Lib.hid hrec
  have HCO := Lib.hid hcost
  have HA := Lib.hid hA
  have HJNE := Lib.hid hJne
  have hn64 := hE.n64
  clear hE hY hrec hz hS hch hI hO hpre hL hst hss hcost hx hJne hsta hA hA0 hba
  go_enter Try.func53, Try.ntmps53
  go_wp2
  go_loopw [44] (fun c wr => ∃ k : Nat, k ≤ (idxV E.I.l x.length).length ∧ c = .int .i64 k ∧ E.St wr z st (fun i => if i ∈ (idxV E.I.l x.length).take k then some (pj (E.I.a i) x, 0) else E.plc x i) ss ∧ Chg E.EF w wr) (fun c _ => (idxV E.I.l x.length).length - (intOf c).toNat)
  case atStart => exact ⟨0, Nat.zero_le _, rfl, HS.out.congr fun i _ => by simp, Chg.refl _ _⟩
  case round =>
    obtain ⟨k, hk, rfl, hS1, hc1⟩ := hrel
    have HS1 := Lib.hid hS1
    have HC1 := Lib.hid hc1
    clear hS1 hc1
    by_cases h1 : k < (idxV E.I.l x.length).length
    · obtain ⟨hp1, hp2⟩ := HPT.out k wr (Eng.tf HCH.out HC1.out) h1
      have hmem : (idxV E.I.l x.length).getD k 0 ∈ idxV E.I.l x.length := by rw [List.getD_eq_getElem?_getD, List.getElem?_eq_getElem h1]; exact List.getElem_mem h1
      have hnt : (idxV E.I.l x.length).getD k 0 ∉ (idxV E.I.l x.length).take k := by
        rw [List.getD_eq_getElem?_getD, List.getElem?_eq_getElem h1]
        intro hm
        obtain ⟨j, hj, e⟩ := List.mem_take_iff_getElem.1 hm
        exact List.pairwise_iff_getElem.1 (idxV_nodup E.I.l x.length) j k (by omega) h1 (by omega) e
      obtain ⟨hil, hiv⟩ := mem_idxV.1 hmem
      have HOP := Lib.hid (Eng.open_ HE.out HS1.out (Eng.tf HCH.out HC1.out) hil hiv (HPRE.out _ (getD_mem hil)) (if_neg hnt))
      have HTK : Hid (∀ i, (i ∈ (idxV E.I.l x.length).take (k + 1) ↔ i ∈ (idxV E.I.l x.length).take k ∨ i = (idxV E.I.l x.length).getD k 0)) := fun i => by
        rw [List.take_succ_eq_append_getElem h1, List.mem_append, List.mem_singleton, List.getD_eq_getElem?_getD, List.getElem?_eq_getElem h1]
        rfl
      generalize (idxV E.I.l x.length).getD k 0 = i0 at hp1 HOP HTK
      clear hmem hnt hil hiv
      have g3 : (0 : Int) ≤ (k : Int) := by omega
      have g4 : (k : Int) < ((idxV E.I.l x.length).length : Int) := by omega
      have hw1 : IntKind.i64.wrap ((k : Int) + 1) = ((k + 1 : Nat) : Int) := by rw [IntWalk.i64_in _ (by omega)]; omega
      go_wp2_with fail
      refine HOP.out.mono ?_
      rintro e w2 ⟨⟨b, rfl⟩, hS2, hc2⟩
      have HS2 := Lib.hid hS2
      have HC2 := Lib.hid (HC1.out.trans hc2)
      clear hS2 hc2 HOP
      go_wp2
      go_roundw
      case rel =>
        refine ⟨k + 1, h1, rfl, HS2.out.congr fun i _ => ?_, HC2.out⟩
        by_cases hi : i = i0
        · rw [if_pos hi, if_pos ((HTK.out i).2 (.inr hi)), hi]
        · rw [if_neg hi]
          by_cases hj : i ∈ (idxV E.I.l x.length).take k
          · rw [if_pos hj, if_pos ((HTK.out i).2 (.inl hj))]
          · rw [if_neg hj, if_neg (fun h => ((HTK.out i).1 h).elim hj hi)]
      case measure => simp [intOf]; omega
    have hke : k = (idxV E.I.l x.length).length := by omega
    have HS2 : Hid (E.St wr z st (plJ (idxV E.I.l x.length) (fun i => pj (E.I.a i) x) (fun _ => 0) (E.plc x)) ss) := by
      have h := HS1.out
      rw [hke, List.take_length] at h
      exact h
    have HCW := Lib.hid (Eng.tf HCH.out HC1.out)
    have hbs : st + meetN 64 M ≤ 4000000000000000000 := by
      have h1 := HST.out
      rw [HCO.out] at h1
      have h2 : meetN 64 M ≤ (M + 1) * (meetN 64 M + costN M (meetN 64 M) m) := Nat.le_trans (Nat.le_add_right _ _) (Nat.le_mul_of_pos_left _ (by omega))
      omega
    have hbi : ∀ i, i < E.I.l.length → ss i + meetN 64 M * 200002 ≤ 100000000000000000 := fun i hi => by
      have h1 := HSS.out i hi
      rw [HCO.out] at h1
      have h2 : meetN 64 M ≤ (M + 1) * (meetN 64 M + costN M (meetN 64 M) m) := Nat.le_trans (Nat.le_add_right _ _) (Nat.le_mul_of_pos_left _ (by omega))
      exact Nat.le_trans (Nat.add_le_add_left (Nat.mul_le_mul_right _ h2) _) h1
    have HMEET := Lib.hid (Eng.meet_ HE.out hxn HS2.out HCW.out MSt.init hbs hbi)
    have HIO := Lib.hid (Yield.stay HE.out HY.out HI.out HO.out HC1.out)
    clear HS1 hbs hbi hke hk
    go_wp2_with fail
    rw [HA.out] at HMEET
    refine HMEET.out.mono ?_
    rintro e w2 ⟨rfl, p1, st1, ss1, hS3, hf3, hb1, hb2, hb3, hc3⟩
    have HLOOP : Hid (LoopP E O0 W0 go Inv m x L st ss (meetN 64 M) (meetN 64 M + costN M (meetN 64 M) m) 0 w2) := by
      obtain ⟨hi2, ho2⟩ := Yield.stay HE.out HY.out HIO.out.1 HIO.out.2 hc3
      refine ⟨Nat.zero_le _, by rw [rowsT_zero]; rfl, z, st1, ss1, p1, O, hS3, HZ.out, by rw [rowsT_zero]; exact hi2, ho2, Eng.tf HCW.out hc3, hf3, by rw [rowsT_zero, feed_nil]; simpa using hb1, by rw [Nat.zero_mul]; exact hb2, fun i hi => by rw [Nat.zero_mul]; exact hb3 i hi⟩
    clear hS3 hf3 hb1 hb2 hb3 hc3 HMEET HIO HS2 h1
    go_upto_block 2 with fail
    go_cut [8] (fun mo wx => MidP E O0 W0 go Inv (costN M (meetN 64 M) (m + 1)) (joinN E.I.l (m + 1) x) x L st ss mo wx)
    case first =>
      go_wp2_with fail
      go_loopg [8, 9] ((candF E.I.l x).length) (fun gk mo fo wr => ∃ t : Nat, gk = (candF E.I.l x).length - t ∧ mo = .bool true ∧ fo = .bool (decide (t < (candF E.I.l x).length)) ∧ LoopP E O0 W0 go Inv m x L st ss (meetN 64 M) (meetN 64 M + costN M (meetN 64 M) m) t wr)
      case atStart => exact ⟨0, rfl, rfl, rfl, HLOOP.out⟩
      case round =>
        obtain ⟨t, hgk, rfl, rfl, hLP⟩ := hrel
        have HLP := Lib.hid hLP
        have HGK := Lib.hid hgk
        clear hLP hgk HLOOP
        by_cases ht : t < (candF E.I.l x).length
        rotate_left
        · have hd : decide (t < (candF E.I.l x).length) = false := by simpa using ht
          rw [hd]
          clear hd
          go_wp2_with fail
          go_meet
          exact MidP.of_loop hCM HCO.out HLP.out ht
        have hd : decide (t < (candF E.I.l x).length) = true := by simpa using ht
        rw [hd]
        clear hd
        obtain ⟨-, hft, z1, st1, ss1, p1, O1, hS1, hz1, hI1, hO1, hc1, hf1, hb1, hb2, hb3⟩ := HLP.out
        have hfnd := hf1 ht
        have hi0 := j0_mem HJNE.out
        obtain ⟨hil, hiv⟩ := mem_idxV.1 hi0
        have hne := atsV_ne HE.out.used hxn
        have hcm := (mem_cand_idx hne (candF E.I.l x)[t]).1 (List.getElem_mem ht) _ hi0
        have hp0 : p1 ((idxV E.I.l x.length).getD 0 0) = cntF (RL.kids (E.I.a ((idxV E.I.l x.length).getD 0 0)).d (E.I.a ((idxV E.I.l x.length).getD 0 0)).P (pj (E.I.a ((idxV E.I.l x.length).getD 0 0)) x)) (candF E.I.l x)[t] := by
          obtain ⟨_, h⟩ := hfnd
          exact h _ hi0
        have HKEY : Hid (∀ W, Ext wr W → Calls Try.prog 78 #[.pointer (some ⟨E.I.g ((idxV E.I.l x.length).getD 0 0), 0, none⟩)] W fun e w' => e = .returned (.tuple #[vv (candF E.I.l x)[t], .bool true]) ∧ Below W.heap.size W w') := fun W hW =>
          Eng.key_ HE.out (hS1.up hW.below) (hc1.trans (Chg.of_ext hW)) hil hcm (by show plJ _ _ _ _ _ = _; unfold plJ; rw [if_pos hi0, hp0])
        obtain ⟨hpt, hpz⟩ := HPT.out 0 wr hc1 hlp
        rw [Nat.add_zero] at hpt
        have HS1 := Lib.hid hS1
        have HZ1 := Lib.hid hz1
        have HI1 := Lib.hid hI1
        have HO1 := Lib.hid hO1
        have HC1 := Lib.hid hc1
        have HFND := Lib.hid hfnd
        have HFT := Lib.hid hft
        have HB1 := Lib.hid (And.intro hb1 (And.intro hb2 hb3))
        have HIL := Lib.hid hil
        have HP0 : Hid (p1 ((idxV E.I.l x.length).getD 0 0) < (RL.kids (E.I.a ((idxV E.I.l x.length).getD 0 0)).d (E.I.a ((idxV E.I.l x.length).getD 0 0)).P (pj (E.I.a ((idxV E.I.l x.length).getD 0 0)) x)).length) := by
          show _ < _
          rw [hp0]
          exact (cntF_mem (RL.kids_asc (HE.out.its.r _ hil) _) hcm).1
        have HPL0 : Hid (plJ (idxV E.I.l x.length) (fun i => pj (E.I.a i) x) p1 (E.plc x) ((idxV E.I.l x.length).getD 0 0) = some (pj (E.I.a ((idxV E.I.l x.length).getD 0 0)) x, p1 ((idxV E.I.l x.length).getD 0 0))) := by show _ = _; unfold plJ; rw [if_pos hi0]
        have HPRE2 : Hid (∀ a ∈ E.I.l, preA a (x ++ [(candF E.I.l x)[t]])) := (cand_pre HE.out.atoms HE.out.used hxn HPRE.out _).1 (List.getElem_mem ht)
        have HPLC : Hid (∀ i, i < E.I.l.length → E.plc (x ++ [(candF E.I.l x)[t]]) i = plJ (idxV E.I.l x.length) (fun i => pj (E.I.a i) x) p1 (E.plc x) i) := fun i hi => Eng.plc_snoc HE.out hxn hfnd ht hi
        have j0 : wr.cell? ⟨E.jb, 0, none⟩ = some (.slice (some ⟨E.rb, 0, none⟩) E.n E.n) := hS1.j.cell 0
        have hjz : E.jb < wr.heap.size := hS1.j.lt
        clear hS1 hz1 hI1 hO1 hc1 hf1 hb1 hb2 hb3 hfnd hft hi0 hil hiv hne hcm hp0
        have HCC : Hid (∃ c, c = (candF E.I.l x)[t]) := ⟨_, rfl⟩
        generalize hcv : (candF E.I.l x)[t] = c at HKEY HPRE2 HPLC
        have HCV := Lib.hid hcv
        clear hcv HCC
        generalize hg0 : E.I.g ((idxV E.I.l x.length).getD 0 0) = gg at HKEY hpt
        have HG0 := Lib.hid hg0
        clear hg0
        have HBR : Hid (ba ≠ E.rb) := fun e => HE.out.atn x.length hxn _ HA.out (.inr (.inl e))
        go_wp2_with fail
        refine wp_region_held_drew (S := (fun w' => w'.cell? ⟨E.jb, 0, none⟩ = some (.slice (some ⟨E.rb, 0, none⟩) E.n E.n) ∧ w'.cell? ⟨ba, oa, none⟩ = some (.pointer (some ⟨gg, 0, none⟩)))) (by kernel_rfl) ⟨j0, hpt⟩ (fun hHeld => ?_)
        refine takeOp (i := 0) (v := ?_) (some 65) rfl rfl (by kernel_rfl) (by kernel_rfl) (by kernel_rfl) (fun _ _ _ h => h) (Or.inl ⟨by rfl, ?_⟩) (by assumption) ?_
        rotate_left 1
        · (intro w0 hSw; (try dsimp only at hSw); go_simp; try (with_reducible rfl))
        try simp only [Act.put]
        try simp only [List.setIfInBounds_toArray]
        try simp only [List.set_cons_succ]
        try simp only [List.set_cons_zero]
        refine takeOp (i := 1) (v := ?_) (some 66) rfl rfl (by kernel_rfl) (by kernel_rfl) (by kernel_rfl) (fun _ _ _ h => h) (Or.inl ⟨by rfl, ?_⟩) (by assumption) ?_
        rotate_left 1
        · (intro w0 hSw; (try dsimp only at hSw); go_simp; try (with_reducible rfl))
        try simp only [Act.put]
        try simp only [List.setIfInBounds_toArray]
        try simp only [List.set_cons_succ]
        try simp only [List.set_cons_zero]
        refine takeOp (i := 2) (v := ?_) (some 67) rfl rfl (by kernel_rfl) (by kernel_rfl) (by kernel_rfl) (fun _ _ _ h => h) (Or.inl ⟨by rfl, ?_⟩) (by assumption) ?_
        rotate_left 1
        · (intro w0 hSw; (try dsimp only at hSw); go_simp; try (with_reducible rfl))
        try simp only [Act.put]
        try simp only [List.setIfInBounds_toArray]
        try simp only [List.set_cons_succ]
        try simp only [List.set_cons_zero]
        refine takeOp (i := 3) (v := ?_) (some 68) rfl rfl (by kernel_rfl) (by kernel_rfl) (by kernel_rfl) (fun _ _ _ h => h) (Or.inl ⟨by rfl, ?_⟩) (by assumption) ?_
        rotate_left 1
        · (intro w0 hSw; (try dsimp only at hSw); go_simp; try (with_reducible rfl))
        try simp only [Act.put]
        try simp only [List.setIfInBounds_toArray]
        try simp only [List.set_cons_succ]
        try simp only [List.set_cons_zero]
        refine takeOp (i := 4) (v := ?_) (some 69) rfl rfl (by kernel_rfl) (by kernel_rfl) (by kernel_rfl) (fun _ _ _ h => h) (Or.inl ⟨by rfl, ?_⟩) (by assumption) ?_
        rotate_left 1
        · (intro w0 hSw; (try dsimp only at hSw); go_simp; try (with_reducible rfl))
        try simp only [Act.put]
        try simp only [List.setIfInBounds_toArray]
        try simp only [List.set_cons_succ]
        try simp only [List.set_cons_zero]
        refine takeOp (i := 5) (v := ?_) (some 70) rfl rfl (by kernel_rfl) (by kernel_rfl) (by kernel_rfl) (fun _ _ _ h => h) (Or.inl ⟨by rfl, ?_⟩) (by assumption) ?_
        rotate_left 1
        · (intro w0 hSw; (try dsimp only at hSw); go_simp; try (with_reducible rfl))
        try simp only [Act.put]
        try simp only [List.setIfInBounds_toArray]
        try simp only [List.set_cons_succ]
        try simp only [List.set_cons_zero]
        refine takeOp (i := 6) (v := ?_) (some 71) rfl rfl (by kernel_rfl) (by kernel_rfl) (by kernel_rfl) (fun _ _ _ h => h) (Or.inl ⟨by rfl, ?_⟩) (by assumption) ?_
        rotate_left 1
        · (intro w0 hSw; (try dsimp only at hSw); go_simp; try (with_reducible rfl))
        try simp only [Act.put]
        try simp only [List.setIfInBounds_toArray]
        try simp only [List.set_cons_succ]
        try simp only [List.set_cons_zero]
        refine takeOp (i := 7) (v := ?_) (some 72) rfl rfl (by kernel_rfl) (by kernel_rfl) (by kernel_rfl) (fun _ _ _ h => h) (Or.inl ⟨by rfl, ?_⟩) (by assumption) ?_
        rotate_left 1
        · (intro w0 hSw; (try dsimp only at hSw); go_simp; try (with_reducible rfl))
        try simp only [Act.put]
        try simp only [List.setIfInBounds_toArray]
        try simp only [List.set_cons_succ]
        try simp only [List.set_cons_zero]
        refine wpAnyH_ready (rs := [8]) (by kernel_rfl) (by simp) ?_
        refine AllReadyH.cons rfl (fun K hK => ?_) AllReadyH.nil
        go_simp
        refine (HKEY.out wr.drew (Ext.refl wr).drew).mono ?_
        rintro e w2 ⟨rfl, hb2⟩
        have HB2 : Hid (Below wr.heap.size wr w2) := Below.undrew hb2
        have KEEP : w2.cell? ⟨E.jb, 0, none⟩ = some (.slice (some ⟨E.rb, 0, none⟩) E.n E.n) ∧ w2.cell? ⟨ba, oa, none⟩ = some (.pointer (some ⟨gg, 0, none⟩)) := ⟨(HB2.out.cell (p := ⟨E.jb, 0, none⟩) hjz).trans j0, (HB2.out.cell (p := ⟨ba, oa, none⟩) hpz).trans hpt⟩
        have HS2 := Lib.hid (HS1.out.up HB2.out)
        have hl3 : (rcells z1).length = E.n * 3 := by rw [rcells_length, HS1.out.z_len]
        obtain ⟨t0, r0⟩ : ∃ t, w2.cell? ⟨E.rb, x.length * 3, none⟩ = some t := ⟨_, HS2.out.row.cell_ (by omega)⟩
        obtain ⟨t1, r1⟩ : ∃ t, w2.cell? ⟨E.rb, x.length * 3 + 1, none⟩ = some t := ⟨_, HS2.out.row.cell_ (by omega)⟩
        obtain ⟨t2, r2⟩ : ∃ t, w2.cell? ⟨E.rb, x.length * 3 + 2, none⟩ = some t := ⟨_, HS2.out.row.cell_ (by omega)⟩
        have f0 := HS2.out.row.frozen (x.length * 3)
        have f1 := HS2.out.row.frozen (x.length * 3 + 1)
        have f2 := HS2.out.row.frozen (x.length * 3 + 2)
        clear hb2 hl3
        go_wp2_with fail
        refine hK.out _ _ KEEP (fun hHeld => ?_)
        clear hK K
        try simp only [Act.put]
        try simp only [List.setIfInBounds_toArray]
        try simp only [List.set_cons_succ]
        try simp only [List.set_cons_zero]
        refine takeOp (i := 9) (v := ?_) (some 64) rfl rfl (by kernel_rfl) (by kernel_rfl) (by kernel_rfl) (fun _ _ _ h => h) (Or.inl ⟨by rfl, ?_⟩) (by assumption) ?_
        rotate_left 1
        · (intro w0 hSw; (try dsimp only at hSw); go_simp; try (with_reducible rfl))
        try simp only [Act.put]
        try simp only [List.setIfInBounds_toArray]
        try simp only [List.set_cons_succ]
        try simp only [List.set_cons_zero]
        refine takeOp (i := 10) (v := ?_) (some 74) rfl rfl (by kernel_rfl) (by kernel_rfl) (by kernel_rfl) (fun _ _ _ h => h) (Or.inl ⟨by rfl, ?_⟩) (by assumption) ?_
        rotate_left 1
        · (intro w0 hSw; (try dsimp only at hSw); go_simp; try (with_reducible rfl))
        try simp only [Act.put]
        try simp only [List.setIfInBounds_toArray]
        try simp only [List.set_cons_succ]
        try simp only [List.set_cons_zero]
        refine takeOp (i := 11) (v := ?_) (some 75) rfl rfl (by kernel_rfl) (by kernel_rfl) (by kernel_rfl) (fun _ _ _ h => h) (Or.inl ⟨by rfl, ?_⟩) (by assumption) ?_
        rotate_left 1
        · (intro w0 hSw; (try dsimp only at hSw); go_simp; try (with_reducible rfl))
        try simp only [Act.put]
        try simp only [List.setIfInBounds_toArray]
        try simp only [List.set_cons_succ]
        try simp only [List.set_cons_zero]
        refine takeOp (i := 12) (v := ?_) (some 76) rfl rfl (by kernel_rfl) (by kernel_rfl) (by kernel_rfl) (fun _ _ _ h => h) (Or.inl ⟨by rfl, ?_⟩) (by assumption) ?_
        rotate_left 1
        · (intro w0 hSw; (try dsimp only at hSw); go_simp; try (with_reducible rfl))
        try simp only [Act.put]
        try simp only [List.setIfInBounds_toArray]
        try simp only [List.set_cons_succ]
        try simp only [List.set_cons_zero]
        refine wpAnyH_ready (rs := [13]) (by kernel_rfl) (by simp) ?_
        refine AllReadyH.cons rfl (fun K hK => ?_) AllReadyH.nil
        go_simp
        have hch3 : Chg (fun b => b = E.rb) w2 (((w2.setCell ⟨E.rb, x.length * 3, none⟩ (.int .i64 c.kind)).setCell ⟨E.rb, x.length * 3 + 1, none⟩ (.int .i64 c.int)).setCell ⟨E.rb, x.length * 3 + 2, none⟩ (.string c.str)) := ((Chg.set (F := fun b => b = E.rb) _ _ _ _ rfl).trans (Chg.set _ _ _ _ rfl)).trans (Chg.set _ _ _ _ rfl)
        have KEEP3 : (((w2.setCell ⟨E.rb, x.length * 3, none⟩ (.int .i64 c.kind)).setCell ⟨E.rb, x.length * 3 + 1, none⟩ (.int .i64 c.int)).setCell ⟨E.rb, x.length * 3 + 2, none⟩ (.string c.str)).cell? ⟨E.jb, 0, none⟩ = some (.slice (some ⟨E.rb, 0, none⟩) E.n E.n) ∧ (((w2.setCell ⟨E.rb, x.length * 3, none⟩ (.int .i64 c.kind)).setCell ⟨E.rb, x.length * 3 + 1, none⟩ (.int .i64 c.int)).setCell ⟨E.rb, x.length * 3 + 2, none⟩ (.string c.str)).cell? ⟨ba, oa, none⟩ = some (.pointer (some ⟨gg, 0, none⟩)) :=
          ⟨(hch3.cell (p := ⟨E.jb, 0, none⟩) HS2.out.j.lt HE.out.jr).trans KEEP.1, (hch3.cell (p := ⟨ba, oa, none⟩) (Nat.lt_of_lt_of_le hpz HB2.out.size) HBR.out).trans KEEP.2⟩
        have HCH3 := Lib.hid hch3
        have HS3 : Hid (E.St (((w2.setCell ⟨E.rb, x.length * 3, none⟩ (.int .i64 c.kind)).setCell ⟨E.rb, x.length * 3 + 1, none⟩ (.int .i64 c.int)).setCell ⟨E.rb, x.length * 3 + 2, none⟩ (.string c.str)) (z1.set x.length c) st1 (plJ (idxV E.I.l x.length) (fun i => pj (E.I.a i) x) p1 (E.plc x)) ss1) :=
          ⟨by rw [List.length_set]; exact HS2.out.z_len, HS2.out.j.chg hch3 HE.out.jr, by rw [rcells_set z1 x.length c (by rw [HS2.out.z_len]; exact hxn)]; exact ((HS2.out.row.set _ _).set _ _).set _ _, fun i hi => IterP.chg (HS2.out.it i hi) hch3 (HE.out.rg i hi)⟩
        clear hch3
        go_wp2_with fail
        refine hK.out _ _ KEEP3 (fun hHeld => ?_)
        clear hK K
        try simp only [Act.put]
        try simp only [List.setIfInBounds_toArray]
        try simp only [List.set_cons_succ]
        try simp only [List.set_cons_zero]
        refine wpAnyH_done (by kernel_rfl) ?_ _
        generalize (((w2.setCell ⟨E.rb, x.length * 3, none⟩ (.int .i64 c.kind)).setCell ⟨E.rb, x.length * 3 + 1, none⟩ (.int .i64 c.int)).setCell ⟨E.rb, x.length * 3 + 2, none⟩ (.string c.str)) = W3 at HS3 HCH3 KEEP3 ⊢
        have HEC : Hid (Chg E.EF wr W3) := (Chg.of_below HB2.out fun k h1 h2 => absurd h1 (by omega)).trans (HCH3.out.mono fun _ _ h => .inr (.inl h))
        have HC3 := Lib.hid (Eng.tf HC1.out HEC.out)
        have HIO3 := Lib.hid (Yield.stay HE.out HY.out HI1.out HO1.out HEC.out)
        have HFS : Hid (feed go L (rowsT E.I.l m x (t + 1)) = feed go (feed go L (rowsT E.I.l m x t)).1 (joinN E.I.l m (x ++ [c]))) := by
          have h := feed_step (m := m) ht HFT.out
          rw [HCV.out] at h
          exact h
        have HTD : Hid (t * (meetN 64 M + costN M (meetN 64 M) m) + (meetN 64 M + costN M (meetN 64 M) m) ≤ M * (meetN 64 M + costN M (meetN 64 M) m)) := by
          have h := Nat.mul_le_mul_right (meetN 64 M + costN M (meetN 64 M) m) (show t + 1 ≤ M by omega)
          rw [Nat.succ_mul] at h
          exact h
        have HMD : Hid ((M + 1) * (meetN 64 M + costN M (meetN 64 M) m) = M * (meetN 64 M + costN M (meetN 64 M) m) + (meetN 64 M + costN M (meetN 64 M) m)) := Nat.succ_mul _ _
        have HRC : Hid (Calls Try.prog 53 #[.pointer (some ⟨E.jb, 0, none⟩), .int .i64 ((x.length : Int) + 1)] W3 (ExtPost E O0 W0 go Inv (costN M (meetN 64 M) m) (joinN E.I.l m (x ++ [c])) (x ++ [c]) (feed go L (rowsT E.I.l m x t)).1 st1 ss1)) := by
          have e : (((x ++ [c]).length : Nat) : Int) = (x.length : Int) + 1 := by simp
          rw [← e]
          refine HREC.out (x ++ [c]) (z1.set x.length c) _ O1 st1 ss1 W3 (by have := HX.out; simp; omega) ?_ (HS3.out.congr fun i hi => (HPLC.out i hi).symm) HC3.out HIO3.out.1 HIO3.out.2 HPRE2.out ?_ ?_ (fun i hi => ?_)
          · have hzl : x.length < z1.length := by rw [HS1.out.z_len]; exact hxn
            rw [List.length_append, List.length_singleton, List.take_set, List.take_succ_eq_append_getElem hzl, HZ1.out, List.set_append_right _ _ (Nat.le_refl _), Nat.sub_self]
            rfl
          · have h1 := (feed_len go (rowsT E.I.l m x t) L).2
            have h2 := rowsT_le E.I.l m x (t + 1)
            rw [rowsT_succ ht, HCV.out, List.length_append] at h2
            have h3 := HL.out
            omega
          · have h1 := HB1.out.2.1
            have h2 := HST.out
            rw [HCO.out, HMD.out] at h2
            have h3 := HTD.out
            omega
          · have h1 := HB1.out.2.2 i hi
            have h2 := HSS.out i hi
            rw [HCO.out, HMD.out] at h2
            have h3 := HTD.out
            refine Nat.le_trans (Nat.le_trans (Nat.add_le_add_right h1 _) ?_) h2
            rw [Nat.add_assoc, ← Nat.add_mul]
            exact Nat.add_le_add_left (Nat.mul_le_mul_right _ (by omega)) _
        have hw1 : IntKind.i64.wrap ((x.length : Int) + 1) = (x.length : Int) + 1 := IntWalk.i64_in _ (by omega)
        clear t0 t1 t2 r0 r1 r2 f0 f1 f2 KEEP KEEP3 hHeld j0 hpt HKEY
        go_wp2_with fail
        refine HRC.out.mono ?_
        rintro e w4 ⟨rfl, z2, st2, ss2, O2, hS4, hz2, hI4, hO4, hC4, hb4, hb5, hb6⟩
        rw [← HFS.out] at hI4 hb4 ⊢
        have HAFT : Hid (E.St w4 z2 st2 (plJ (idxV E.I.l x.length) (fun i => pj (E.I.a i) x) p1 (E.plc x)) ss2 ∧ z2.take x.length = x ∧ Inv (feed go L (rowsT E.I.l m x (t + 1))).1 O2 w4 ∧ (∀ b, O2 b → b < w4.heap.size ∧ (O0 b ∨ W0.heap.size ≤ b)) ∧ Chg (E.TF O0) W0 w4 ∧ st + ((feed go L (rowsT E.I.l m x (t + 1))).1.length - L.length) ≤ st2 ∧ st2 + meetN 64 M ≤ st + (meetN 64 M + (t + 1) * (meetN 64 M + costN M (meetN 64 M) m)) ∧ ∀ i, i < E.I.l.length → ss2 i + meetN 64 M * 200002 ≤ ss i + (meetN 64 M + (t + 1) * (meetN 64 M + costN M (meetN 64 M) m)) * 200002) := by
          refine ⟨hS4.congr HPLC.out, ?_, hI4, hO4, hC4, ?_, ?_, fun i hi => ?_⟩
          · have h := congrArg (List.take x.length) hz2
            rw [List.take_take, List.length_append, List.length_singleton, Nat.min_eq_left (by omega), List.take_left] at h
            exact h
          · have h1 := HB1.out.1
            have h2 := (feed_len go (rowsT E.I.l m x t) L).1
            have h3 := (feed_len go (joinN E.I.l m (x ++ [c])) (feed go L (rowsT E.I.l m x t)).1).1
            rw [← HFS.out] at h3
            omega
          · have h1 := HB1.out.2.1
            rw [Nat.succ_mul]
            omega
          · have h1 := HB1.out.2.2 i hi
            have h2 := hb6 i hi
            refine Nat.le_trans (Nat.add_le_add_right (Nat.le_trans h2 (Nat.add_le_add_right h1 _)) _) ?_
            rw [Nat.add_assoc, Nat.add_assoc, ← Nat.add_mul, ← Nat.add_mul, Nat.succ_mul]
            exact Nat.add_le_add_left (Nat.mul_le_mul_right _ (by omega)) _
        clear hS4 hz2 hI4 hO4 hC4 hb4 hb5 hb6 HRC HIO3 HC3 HEC HS3 HCH3 HB2 HS2 hw1 HI1 HO1 HS1 HZ1 HPRE2
        generalize hmb : (feed go L (rowsT E.I.l m x (t + 1))).2 = mb
        have HMB := Lib.hid hmb
        clear hmb
        cases mb
        · go_wp2_with fail
          go_meet
          obtain ⟨k1, k2, k3, k4, k5, k6, k7, k8⟩ := HAFT.out
          have hfs := feed_stop (m := m) HMB.out
          have hbb : meetN 64 M + (t + 1) * (meetN 64 M + costN M (meetN 64 M) m) ≤ costN M (meetN 64 M) (m + 1) := by
            have h3 := HTD.out
            rw [HCO.out, HMD.out, Nat.succ_mul]
            omega
          refine ⟨by rw [hfs, HMB.out], z2, st2, ss2, p1, O2, k1, k2, by rw [hfs]; exact k3, k4, k5, by rw [hfs]; exact k6, by omega, fun i hi => ?_⟩
          have h1 := k8 i hi
          exact Nat.le_trans (Nat.le_trans (Nat.le_add_right _ _) h1) (Nat.add_le_add_left (Nat.mul_le_mul_right _ hbb) _)
        obtain ⟨pt4, pz4⟩ := HPT.out 0 w4 HAFT.out.2.2.2.2.1 hlp
        rw [Nat.add_zero, HG0.out] at pt4
        have HNX := Lib.hid (Eng.next_ HE.out HAFT.out.1 HIL.out HPL0.out HP0.out)
        rw [HG0.out] at HNX
        have HMS := Lib.hid (Fnd.next (K := E.I.K fun i => pj (E.I.a i) x) (fun i hi => RL.kids_asc (HE.out.its.r i (mem_idxV.1 hi).1) _) (candF_asc HE.out.atoms x) HJNE.out (fun u => mem_cand_idx (atsV_ne HE.out.used hxn) u) HFND.out)
        go_wp2_with fail
        refine HNX.out.mono ?_
        rintro e w5 ⟨rfl, hS5, hc5⟩
        have HS5 : Hid (E.St w5 z2 st2 (plJ (idxV E.I.l x.length) (fun i => pj (E.I.a i) x) (updN p1 ((idxV E.I.l x.length).getD 0 0) (p1 ((idxV E.I.l x.length).getD 0 0) + 1)) (E.plc x)) ss2) := hS5.congr fun i hi => by
          unfold plJ updN
          by_cases hi0 : i = (idxV E.I.l x.length).getD 0 0
          · rw [if_pos hi0, if_pos (by rw [hi0]; exact j0_mem HJNE.out), if_pos hi0, hi0]
          · rw [if_neg hi0, if_neg hi0]
        have HIO5 := Lib.hid (Yield.stay HE.out HY.out HAFT.out.2.2.1 HAFT.out.2.2.2.1 hc5)
        have HC5 := Lib.hid (Eng.tf HAFT.out.2.2.2.2.1 hc5)
        clear hS5 hc5 HNX pt4
        by_cases hn : p1 ((idxV E.I.l x.length).getD 0 0) + 1 < (RL.kids (E.I.a ((idxV E.I.l x.length).getD 0 0)).d (E.I.a ((idxV E.I.l x.length).getD 0 0)).P (pj (E.I.a ((idxV E.I.l x.length).getD 0 0)) x)).length
        rotate_left
        · have hte : t + 1 = (candF E.I.l x).length := HMS.out.none (fun i hi => RL.kids_asc (HE.out.its.r i (mem_idxV.1 hi).1) _) HJNE.out (fun u => mem_cand_idx (atsV_ne HE.out.used hxn) u) (by unfold updN; rw [if_pos rfl]; exact hn)
          have HTE := Lib.hid hte
          have hd : decide (p1 ((idxV E.I.l x.length).getD 0 0) + 1 < (RL.kids (E.I.a ((idxV E.I.l x.length).getD 0 0)).d (E.I.a ((idxV E.I.l x.length).getD 0 0)).P (pj (E.I.a ((idxV E.I.l x.length).getD 0 0)) x)).length) = false := by simpa using hn
          rw [hd]
          clear hd hn hte
          go_wp2
          go_roundg ((candF E.I.l x).length - (t + 1))
          case measure => have := HGK.out; omega
          case rel =>
            obtain ⟨k1, k2, k3, k4, k5, k6, k7, k8⟩ := HAFT.out
            refine ⟨t + 1, rfl, rfl, ?_, ht, HMB.out, z2, st2, ss2, _, O2, HS5.out, k2, HIO5.out.1, HIO5.out.2, HC5.out, fun h => absurd h (by rw [HTE.out]; exact Nat.lt_irrefl _), k6, by omega, fun i hi => Nat.le_trans (Nat.le_add_right _ _) (k8 i hi)⟩
            rw [HTE.out]
            simp
        have hd : decide (p1 ((idxV E.I.l x.length).getD 0 0) + 1 < (RL.kids (E.I.a ((idxV E.I.l x.length).getD 0 0)).d (E.I.a ((idxV E.I.l x.length).getD 0 0)).P (pj (E.I.a ((idxV E.I.l x.length).getD 0 0)) x)).length) = true := by simpa using hn
        rw [hd]
        have HMT := Lib.hid (Eng.meet_ HE.out hxn HS5.out HC5.out HMS.out (by
          have h1 := HAFT.out.2.2.2.2.2.2.1
          have h2 := HST.out
          rw [HCO.out, HMD.out] at h2
          have h3 := HTD.out
          rw [Nat.succ_mul] at h1
          omega) (fun i hi => by
          have h1 := HAFT.out.2.2.2.2.2.2.2 i hi
          have h2 := HSS.out i hi
          rw [HCO.out, HMD.out] at h2
          have h3 := HTD.out
          rw [Nat.succ_mul] at h1
          exact Nat.le_trans h1 (Nat.le_trans (Nat.add_le_add_left (Nat.mul_le_mul_right _ (by omega)) _) h2)))
        rw [HA.out] at HMT
        clear hd hn
        go_wp2_with fail
        refine HMT.out.mono ?_
        rintro e w6 ⟨rfl, p6, st6, ss6, hS6, hf6, hb7, hb8, hb9, hc6⟩
        obtain ⟨hi6, ho6⟩ := Yield.stay HE.out HY.out HIO5.out.1 HIO5.out.2 hc6
        have HL6 : Hid (LoopP E O0 W0 go Inv m x L st ss (meetN 64 M) (meetN 64 M + costN M (meetN 64 M) m) (t + 1) w6) := by
          obtain ⟨k1, k2, k3, k4, k5, k6, k7, k8⟩ := HAFT.out
          refine ⟨ht, HMB.out, z2, st6, ss6, p6, O2, hS6, k2, hi6, ho6, Eng.tf HC5.out hc6, hf6, by omega, by omega, fun i hi => ?_⟩
          exact Nat.le_trans (hb9 i hi) (k8 i hi)
        clear hS6 hf6 hb7 hb8 hb9 hc6 hi6 ho6 HMT
        go_wp2
        go_roundg ((candF E.I.l x).length - (t + 1))
        case measure => have := HGK.out; omega
        case rel => exact ⟨t + 1, rfl, rfl, rfl, HL6.out⟩
    case rest =>
      obtain ⟨rfl, z1, st1, ss1, p1, O1, hS1, hz1, hI1, hO1, hC1, hb1, hb2, hb3⟩ := hcut
      have HS1 := Lib.hid hS1
      have HR1 := Lib.hid (And.intro hz1 (And.intro hb1 (And.intro hb2 hb3)))
      have HI1 := Lib.hid hI1
      have HO1 := Lib.hid hO1
      have HC1' := Lib.hid hC1
      clear hS1 hz1 hI1 hO1 hC1 hb1 hb2 hb3 HLOOP
      go_wp2_with fail
      go_loopw [85] (fun c wr => ∃ k : Nat, k ≤ (idxV E.I.l x.length).length ∧ c = .int .i64 k ∧ E.St wr z1 st1 (fun i => if i ∈ (idxV E.I.l x.length).take k then E.plc x i else plJ (idxV E.I.l x.length) (fun i => pj (E.I.a i) x) p1 (E.plc x) i) ss1 ∧ Chg E.EF wc wr) (fun c _ => (idxV E.I.l x.length).length - (intOf c).toNat)
      case atStart => exact ⟨0, Nat.zero_le _, rfl, HS1.out.congr fun i _ => by simp, Chg.refl _ _⟩
      case round =>
        obtain ⟨k2, hk2, rfl, hS2, hc2⟩ := hrel
        have HS2 := Lib.hid hS2
        have HC2 := Lib.hid hc2
        clear hS2 hc2
        by_cases h1 : k2 < (idxV E.I.l x.length).length
        · obtain ⟨hp1, hp2⟩ := HPT.out k2 wr (Eng.tf HC1'.out HC2.out) h1
          have hmem : (idxV E.I.l x.length).getD k2 0 ∈ idxV E.I.l x.length := by rw [List.getD_eq_getElem?_getD, List.getElem?_eq_getElem h1]; exact List.getElem_mem h1
          have hnt : (idxV E.I.l x.length).getD k2 0 ∉ (idxV E.I.l x.length).take k2 := by
            rw [List.getD_eq_getElem?_getD, List.getElem?_eq_getElem h1]
            intro hm
            obtain ⟨j, hj, e⟩ := List.mem_take_iff_getElem.1 hm
            exact List.pairwise_iff_getElem.1 (idxV_nodup E.I.l x.length) j k2 (by omega) h1 (by omega) e
          obtain ⟨hil, hiv⟩ := mem_idxV.1 hmem
          have HUP := Lib.hid (Eng.up_ HE.out (q := pj (E.I.a ((idxV E.I.l x.length).getD k2 0)) x) (k := p1 ((idxV E.I.l x.length).getD k2 0)) HS2.out hil (by simp only [if_neg hnt]; unfold plJ; rw [if_pos hmem]))
          have HTK : Hid (∀ i, (i ∈ (idxV E.I.l x.length).take (k2 + 1) ↔ i ∈ (idxV E.I.l x.length).take k2 ∨ i = (idxV E.I.l x.length).getD k2 0)) := fun i => by
            rw [List.take_succ_eq_append_getElem h1, List.mem_append, List.mem_singleton, List.getD_eq_getElem?_getD, List.getElem?_eq_getElem h1]
            rfl
          generalize (idxV E.I.l x.length).getD k2 0 = i0 at hp1 HUP HTK
          clear hmem hnt hil hiv
          have g3 : (0 : Int) ≤ (k2 : Int) := by omega
          have g4 : (k2 : Int) < ((idxV E.I.l x.length).length : Int) := by omega
          have hw1 : IntKind.i64.wrap ((k2 : Int) + 1) = ((k2 + 1 : Nat) : Int) := by rw [IntWalk.i64_in _ (by omega)]; omega
          go_wp2_with fail
          refine HUP.out.mono ?_
          rintro e w2 ⟨⟨b, rfl⟩, hS3, hc3⟩
          have HS3 := Lib.hid hS3
          have HC3 := Lib.hid (HC2.out.trans hc3)
          clear hS3 hc3 HUP
          go_wp2
          go_roundw
          case rel =>
            refine ⟨k2 + 1, h1, rfl, HS3.out.congr fun i _ => ?_, HC3.out⟩
            by_cases hi : i = i0
            · rw [if_pos hi, if_pos ((HTK.out i).2 (.inr hi)), hi]; rfl
            · rw [if_neg hi]
              by_cases hj : i ∈ (idxV E.I.l x.length).take k2
              · rw [if_pos hj, if_pos ((HTK.out i).2 (.inl hj))]
              · rw [if_neg hj, if_neg (fun h => ((HTK.out i).1 h).elim hj hi)]
          case measure => simp [intOf]; omega
        have HKE : Hid (k2 = (idxV E.I.l x.length).length) := by show _ = _; omega
        go_wp2
        go_ret
        obtain ⟨hi5, ho5⟩ := Yield.stay HE.out HY.out HI1.out HO1.out HC2.out
        refine ⟨rfl, z1, st1, ss1, O1, HS2.out.congr fun i _ => ?_, HR1.out.1, hi5, ho5, Eng.tf HC1'.out HC2.out, HR1.out.2.1, HR1.out.2.2.1, HR1.out.2.2.2⟩
        rw [HKE.out, List.take_length]
        unfold plJ
        split <;> rfl

theorem lfExtend_any : ∀ (m : Nat) (x z : RL.R) (L : List RL.R) (O : Nat → Prop) (st : Nat) (ss : Nat → Nat) (w : World), x.length + m = E.n → z.take x.length = x → E.St w z st (E.plc x) ss → Chg (E.TF O0) W0 w → Inv L O w → (∀ b, O b → b < w.heap.size ∧ (O0 b ∨ W0.heap.size ≤ b)) → (∀ a ∈ E.I.l, preA a x) → L.length + (joinN E.I.l m x).length ≤ N →
      st + costN M (meetN 64 M) m ≤ 4000000000000000000 → (∀ i, i < E.I.l.length → ss i + costN M (meetN 64 M) m * 200002 ≤ 100000000000000000) →
      Calls Try.prog 53 #[.pointer (some ⟨E.jb, 0, none⟩), .int .i64 x.length] w (ExtPost E O0 W0 go Inv (costN M (meetN 64 M) m) (joinN E.I.l m x) x L st ss)
  | 0, x, z, L, O, st, ss, w, hx, hz, hS, hch, hI, hO, _, hL, hst, _ => lfExtend_leaf hE hY x z L O st ss w (by omega) hz hS hch hI hO hL hst
  | m + 1, x, z, L, O, st, ss, w, hx, hz, hS, hch, hI, hO, hpre, hL, hst, hss => lfExtend_step hE hY m (lfExtend_any m) x z L O st ss w hx hz hS hch hI hO hpre hL hst hss
end

end Go.Proofs.Ytiomelogggilgaa
end

section
/- Words for atoms in memory and for a search that is being set up. -/
namespace Go.Proofs.Ytiomelogggilgaa
open Go.RowKit Go.Sort

/-- An atom as the program has it: variables, arity and rows of its relation. -/
structure RA where
  vs : List Int
  ar : Int
  P : List RL.R
def RA.at (a : RA) : At := ⟨a.vs.map Int.toNat, a.P⟩
def AtsM (B : Nat) (w : World) (A : Option Addr) (X : List RA) : Prop :=
  X ≠ [] → ∃ b o, A = some ⟨b, o, none⟩ ∧ b < B ∧ ∀ i (h : i < X.length), ∃ VA VC PA PC, w.cell? ⟨b, o + i * 3, none⟩ = some (.slice VA X[i].vs.length VC) ∧ w.cell? ⟨b, o + i * 3 + 1, none⟩ = some (.int .i64 X[i].ar) ∧ w.cell? ⟨b, o + i * 3 + 2, none⟩ = some (.slice PA X[i].P.length PC) ∧ X[i].vs.length ≤ VC ∧ VC ≤ 9223372036854775807 ∧ X[i].P.length ≤ PC ∧ PC ≤ 9223372036854775807 ∧ SlI .i64 B w VA X[i].vs ∧ SlRs B w PA X[i].P
section
variable {B : Nat} {w w' : World} {A : Option Addr} {X : List RA}
theorem AtsM.upB (h : AtsM w.heap.size w A X) (hb : Below w.heap.size w w') : AtsM w'.heap.size w' A X := fun hn => by
  obtain ⟨b, o, e, hlt, hc⟩ := h hn
  refine ⟨b, o, e, Nat.lt_of_lt_of_le hlt hb.size, fun i hi => ?_⟩
  obtain ⟨VA, VC, PA, PC, h1, h2, h3, h4, h5, h6, h7, h8, h9⟩ := hc i hi
  exact ⟨VA, VC, PA, PC, (hb.cell (p := ⟨b, o + i * 3, none⟩) hlt).trans h1, (hb.cell (p := ⟨b, o + i * 3 + 1, none⟩) hlt).trans h2, (hb.cell (p := ⟨b, o + i * 3 + 2, none⟩) hlt).trans h3, h4, h5, h6, h7, (h8.below hb (Nat.le_refl _)).more hb.size, h9.upB hb⟩
theorem ats_at (h : AtsM B w A X) {i : Nat} (hi : i < X.length) : ∃ b o VA VC PA PC, A = some ⟨b, o, none⟩ ∧ b < B ∧ w.cell? ⟨b, o + i * 3, none⟩ = some (.slice VA X[i].vs.length VC) ∧ w.cell? ⟨b, o + i * 3 + 1, none⟩ = some (.int .i64 X[i].ar) ∧ w.cell? ⟨b, o + i * 3 + 2, none⟩ = some (.slice PA X[i].P.length PC) ∧ X[i].vs.length ≤ VC ∧ VC ≤ 9223372036854775807 ∧ X[i].P.length ≤ PC ∧ PC ≤ 9223372036854775807 ∧ SlI .i64 B w VA X[i].vs ∧ SlRs B w PA X[i].P := by
  obtain ⟨b, o, e, hlt, hc⟩ := h (by intro h0; subst h0; simp at hi)
  obtain ⟨VA, VC, PA, PC, h⟩ := hc i hi
  exact ⟨b, o, VA, VC, PA, PC, e, hlt, h⟩
end

/-- A trie that lies in the blocks from lo to hi. -/
def TrKeep (lo hi : Nat) (w : World) (LA : Option Addr) (a : At) : Prop := ∀ w'' : World, (∀ p : Addr, lo ≤ p.block → p.block < hi → w''.cell? p = w.cell? p) → TrM hi w'' LA a.d (vsF a.d a.P) (fsF a.d a.P)
theorem TrKeep.step {lo hi : Nat} {w w' : World} {LA : Option Addr} {a : At} {F : Nat → Prop} (h : TrKeep lo hi w LA a) (hc : Chg F w w') (hz : hi ≤ w.heap.size) (hF : ∀ b, lo ≤ b → b < hi → ¬ F b) : TrKeep lo hi w' LA a := fun w'' hk => h w'' fun p h1 h2 => (hk p h1 h2).trans (hc.cell (by omega) (hF _ h1 h2))

def Bad (I : Its) (lo : Nat → Nat) (k : Nat) (b : Nat) : Prop := ∃ i, i < k ∧ (b = I.g i ∨ (lo i ≤ b ∧ b < I.B i))
def ptrI (I : Its) (i : Nat) : Value := .pointer (some ⟨I.g i, 0, none⟩)
def zv0 : RL.V := ⟨0, 0, ⟨#[]⟩⟩
/-- A search under way of being set up: k iterators are made, ka of them stand in the list of all, ix v in that of variable v. -/
structure Bld (B0 n jb rb ab : Nat) (yv : Value) (I : Its) (lo : Nat → Nat) (w : World) (k ka : Nat) (allv : Value) (ix : Nat → List Nat) : Prop where
  j : Row w jb 105 [.slice (some ⟨rb, 0, none⟩) n n, .slice (some ⟨ab, 0, none⟩) n n, .int .i64 0, yv]
  r : Row w rb 41 (rcells (List.replicate n zv0))
  at_ : OwnAll B0 (fun b => allv.ownBlock ≠ some b ∧ ¬ Bad I lo k b) w ab 106 n (fun v => (112, 1, (ix v).length, (ix v).map (ptrI I)))
  all : w.ownsRow B0 112 1 allv ka ((List.range ka).map (ptrI I))
  allq : ∀ b, allv.ownBlock = some b → ¬ Bad I lo k b
  it : ∀ i, i < k → I.It w i none 0
  tr : ∀ i, i < k → TrKeep (lo i) (I.B i) w (I.LA i) (I.a i)
  rng : ∀ i, i < k → B0 ≤ lo i ∧ lo i ≤ I.B i ∧ I.B i ≤ I.g i ∧ I.g i < w.heap.size
  sep : ∀ i j, i < k → j < k → ¬ (lo j ≤ I.g i ∧ I.g i < I.B j)
  inj : ∀ i j, i < k → j < k → I.g i = I.g j → i = j
  ixlt : ∀ v i, i ∈ ix v → i < k
  kak : ka ≤ k
  jb_ : jb < B0
  rb_ : rb < B0
  ab_ : ab < B0
  jr : jb ≠ rb
  ja : jb ≠ ab
  ra : rb ≠ ab
  z : B0 ≤ w.heap.size

section
variable {B0 n jb rb ab : Nat} {yv : Value} {I : Its} {lo : Nat → Nat} {w w' : World} {k ka : Nat} {allv : Value} {ix : Nat → List Nat}
theorem Bld.up (h : Bld B0 n jb rb ab yv I lo w k ka allv ix) (hb : Below w.heap.size w w') : Bld B0 n jb rb ab yv I lo w' k ka allv ix where
  j := h.j.up hb
  r := h.r.up hb
  at_ := OwnAll.up h.at_ hb
  all := own_keep h.all hb
  allq := h.allq
  it := fun i hi => IterP.up (h.it i hi) hb
  tr := fun i hi => (h.tr i hi).step (F := fun _ => False) (Chg.of_below hb fun k h1 h2 => absurd h1 (by omega)) (by have := h.rng i hi; omega) fun _ _ _ h => h
  rng := fun i hi => by have := h.rng i hi; have := hb.size; omega
  sep := h.sep
  inj := h.inj
  ixlt := h.ixlt
  kak := h.kak
  jb_ := h.jb_
  rb_ := h.rb_
  ab_ := h.ab_
  jr := h.jr
  ja := h.ja
  ra := h.ra
  z := Nat.le_trans h.z hb.size
/-- The next trie and its iterator have been made. -/
def Its.put (I : Its) (k g B : Nat) (LA : Option Addr) (C : Nat) : Its := ⟨I.l, updN I.g k g, fun i => if i = k then LA else I.LA i, updN I.C k C, updN I.B k B⟩
theorem Its.put_a (I : Its) (k g B : Nat) (LA : Option Addr) (C i : Nat) : (I.put k g B LA C).a i = I.a i := rfl
theorem Bld.made {w1 w2 w3 w4 : World} {g C : Nat} {LA : Option Addr} (h : Bld B0 n jb rb ab yv I lo w1 k k allv ix) (hb : Below w1.heap.size w1 w2) (htr : TrK w1.heap.size w2 LA (I.a k).d (vsF (I.a k).d (I.a k).P) (fsF (I.a k).d (I.a k).P)) (hx : Below w2.heap.size w2 w3) (hg : w3.heap.size ≤ g) (hit : IterP w4 g LA (I.a k).d C (I.a k).P none 0) (hb4 : Below w3.heap.size w3 w4) :
    Bld B0 n jb rb ab yv (I.put k g w2.heap.size LA C) (updN lo k w1.heap.size) w4 (k + 1) k allv ix := by
  have hz2 := hb.size
  have hz3 := hx.size
  have hz4 := hb4.size
  have hb14 : Below w1.heap.size w1 w4 := Below.then (Below.then hb hx hz2) hb4 (by omega)
  have h4 := h.up hb14
  have hg4 : g < w4.heap.size := hit.lt
  have eg : ∀ i, i < k → (I.put k g w2.heap.size LA C).g i = I.g i := fun i hi => by show updN _ _ _ _ = _; unfold updN; rw [if_neg (by omega)]
  have eB : ∀ i, i < k → (I.put k g w2.heap.size LA C).B i = I.B i := fun i hi => by show updN _ _ _ _ = _; unfold updN; rw [if_neg (by omega)]
  have el : ∀ i, i < k → updN lo k w1.heap.size i = lo i := fun i hi => by unfold updN; rw [if_neg (by omega)]
  have egk : (I.put k g w2.heap.size LA C).g k = g := by show updN _ _ _ _ = _; unfold updN; rw [if_pos rfl]
  have eBk : (I.put k g w2.heap.size LA C).B k = w2.heap.size := by show updN _ _ _ _ = _; unfold updN; rw [if_pos rfl]
  have elk : updN lo k w1.heap.size k = w1.heap.size := by unfold updN; rw [if_pos rfl]
  have eL : ∀ i, i < k → (I.put k g w2.heap.size LA C).LA i = I.LA i := fun i hi => by show (if _ then _ else _) = _; rw [if_neg (by omega)]
  have eC : ∀ i, i < k → (I.put k g w2.heap.size LA C).C i = I.C i := fun i hi => by show updN _ _ _ _ = _; unfold updN; rw [if_neg (by omega)]
  have eLk : (I.put k g w2.heap.size LA C).LA k = LA := by show (if _ then _ else _) = _; rw [if_pos rfl]
  have eCk : (I.put k g w2.heap.size LA C).C k = C := by show updN _ _ _ _ = _; unfold updN; rw [if_pos rfl]
  have ep : ∀ i, i < k → ptrI (I.put k g w2.heap.size LA C) i = ptrI I i := fun i hi => by unfold ptrI; rw [eg i hi]
  have hlt1 : ∀ b, Bad (I.put k g w2.heap.size LA C) (updN lo k w1.heap.size) (k + 1) b → b < w1.heap.size → Bad I lo k b := fun b hbad hlt => by
    obtain ⟨i, hi, hh⟩ := hbad
    rcases Nat.lt_or_ge i k with h1 | h1
    · rw [eg i h1, eB i h1, el i h1] at hh
      exact ⟨i, h1, hh⟩
    · have : i = k := by omega
      subst this
      rw [egk, eBk, elk] at hh
      omega
  have hcase : ∀ i, i < k + 1 → i < k ∨ i = k := fun i hi => by omega
  refine { h4 with at_ := ?_, all := ?_, allq := fun b hb2 hbad => h.allq b hb2 (hlt1 b hbad (own_lt h.all b hb2)), it := fun i hi => ?_, tr := fun i hi => ?_, rng := fun i hi => ?_, sep := fun i j hi hj => ?_, inj := fun i j hi hj e => ?_, ixlt := fun v i hi => by have := h.ixlt v i hi; omega, kak := by omega }
  · have e1 : (fun v => (112, 1, (ix v).length, (ix v).map (ptrI (I.put k g w2.heap.size LA C)))) = fun v => (112, 1, (ix v).length, (ix v).map (ptrI I)) := funext fun v => by
      rw [List.map_congr_left fun i hi => ep i (h.ixlt v i hi)]
    rw [e1]
    exact OwnAll.up (OwnAll.weak h.at_ fun b hb2 hq => ⟨hq.1, fun hbad => hq.2 (hlt1 b hbad hb2)⟩) hb14
  · have e1 : (List.range k).map (ptrI (I.put k g w2.heap.size LA C)) = (List.range k).map (ptrI I) := List.map_congr_left fun i hi => ep i (List.mem_range.1 hi)
    rw [e1]
    exact h4.all
  · rcases hcase i hi with h1 | rfl
    · unfold Its.It
      rw [eg i h1, eL i h1, eC i h1]
      exact h4.it i h1
    · unfold Its.It
      rw [egk, eLk, eCk]
      exact hit
  · rcases hcase i hi with h1 | rfl
    · rw [el i h1, eB i h1, eL i h1]
      exact h4.tr i h1
    · rw [elk, eBk, eLk]
      intro w'' hk
      exact htr w'' fun p h1 h2 => (hk p h1 h2).trans ((hb4.cell (by omega)).trans (hx.cell h2))
  · rcases hcase i hi with h1 | rfl
    · rw [el i h1, eB i h1, eg i h1]
      exact h4.rng i h1
    · rw [elk, eBk, egk]
      have := h.z
      omega
  · rcases hcase i hi with h1 | rfl <;> rcases hcase j hj with h2 | rfl
    · rw [el j h2, eB j h2, eg i h1]; exact h.sep i j h1 h2
    · rw [elk, eBk, eg i h1]; have := h.rng i h1; omega
    · rw [el j h2, eB j h2, egk]; have := h.rng j h2; omega
    · rw [elk, eBk, egk]; omega
  · rcases hcase i hi with h1 | rfl <;> rcases hcase j hj with h2 | rfl
    · rw [eg i h1, eg j h2] at e; exact h.inj i j h1 h2 e
    · rw [eg i h1, egk] at e; have := h.rng i h1; omega
    · rw [eg j h2, egk] at e; have := h.rng j h2; omega
    · rfl
theorem OwnAll.grown {B : Nat} {Q : Nat → Prop} {w w' : World} {lb : Nat} {T : TypeId} {n : Nat} {sp : Nat → TypeId × Nat × Nat × List Value} {row : Option Nat} (h : OwnAll B Q w lb T n sp) (hg : w.grownBy w' row) (hr : ∀ b, row = some b → B ≤ b) (hq : ∀ b, Q b → row ≠ some b) : OwnAll B Q w' lb T n sp := by
  obtain ⟨hs, h1, h2, h3, h3', h4, h5, h6⟩ := h
  exact ⟨hs, h1.grown hg (fun e => by have := hr lb e.symm; omega), h2, h3, Nat.le_trans h3' hg.size, fun i u hu => own_grown (h4 i u hu) hg fun k hk e => hq k (h6 i u k hu hk) e.symm, h5, h6⟩
theorem Bad.lt (h : Bld B0 n jb rb ab yv I lo w k ka allv ix) {b : Nat} (hb : Bad I lo k b) : B0 ≤ b ∧ b < w.heap.size := by
  obtain ⟨i, hi, hh⟩ := hb
  have := h.rng i hi
  omega
/-- What keeps the iterators and their tries. -/
theorem Bld.parts {F : Nat → Prop} (h : Bld B0 n jb rb ab yv I lo w k ka allv ix) (hc : Chg F w w') (hF : ∀ b, Bad I lo k b → ¬ F b) : (∀ i, i < k → I.It w' i none 0) ∧ (∀ i, i < k → TrKeep (lo i) (I.B i) w' (I.LA i) (I.a i)) ∧ (∀ i, i < k → B0 ≤ lo i ∧ lo i ≤ I.B i ∧ I.B i ≤ I.g i ∧ I.g i < w'.heap.size) :=
  ⟨fun i hi => IterP.chg (h.it i hi) hc (hF _ ⟨i, hi, .inl rfl⟩), fun i hi => (h.tr i hi).step hc (by have := h.rng i hi; omega) fun b h1 h2 => hF b ⟨i, hi, .inr ⟨h1, h2⟩⟩, fun i hi => by have := h.rng i hi; have := hc.size; omega⟩
/-- The list of all has been appended to. -/
theorem Bld.app {v' : Value} (h : Bld B0 n jb rb ab yv I lo w (k + 1) k allv ix) (hg : w.grownBy w' allv.ownBlock) (hown : w'.ownsRow B0 112 1 v' (k + 1) ((List.range k).map (ptrI I) ++ [ptrI I k])) (hat : ∀ b, v'.ownBlock = some b → allv.ownBlock = some b ∨ w.heap.size ≤ b) : Bld B0 n jb rb ab yv I lo w' (k + 1) (k + 1) v' ix := by
  have hc : Chg (fun b => allv.ownBlock = some b) w w' := Chg.of_grown hg fun _ h => h
  have hob : ∀ b, allv.ownBlock = some b → B0 ≤ b := fun b hb => own_base h.all hb
  obtain ⟨p1, p2, p3⟩ := h.parts hc fun b hb hf => h.allq b hf hb
  refine { h with j := h.j.chg hc fun e => ?_, r := h.r.chg hc fun e => ?_, at_ := ?_, all := ?_, allq := fun b hb hbad => ?_, it := p1, tr := p2, rng := p3, kak := Nat.le_refl _, z := Nat.le_trans h.z hc.size }
  · have := hob jb e; have := h.jb_; omega
  · have := hob rb e; have := h.rb_; omega
  · obtain ⟨hs, h1, h2, h3, h3', h4, h5, h6⟩ := h.at_
    refine OwnAll.grown (Q := fun b => v'.ownBlock ≠ some b ∧ ¬ Bad I lo (k + 1) b ∧ allv.ownBlock ≠ some b) (row := allv.ownBlock) ⟨hs, h1, h2, h3, h3', h4, h5, fun i u b hu hb => ⟨fun e => ?_, (h6 i u b hu hb).2, (h6 i u b hu hb).1⟩⟩ hg hob (fun b hq => hq.2.2) |>.weak fun b _ hq => ⟨hq.1, hq.2.1⟩
    rcases hat b e with h7 | h7
    · exact (h6 i u b hu hb).1 h7
    · have := own_lt (h4 i u hu) b hb; omega
  · rw [List.range_succ, List.map_append]; exact hown
  · rcases hat b hb with h7 | h7
    · exact h.allq b h7 hbad
    · have := (Bad.lt h hbad).2; omega
/-- The list of a variable has been appended to, and its header stored. -/
theorem Bld.ix_put {v t : Nat} {u u' : Value} (h : Bld B0 n jb rb ab yv I lo w k ka allv ix) (hv : w.cell? ⟨ab, v, none⟩ = some u) (ht : t < k) (hg : w.grownBy w' u.ownBlock) (hown : w'.ownsRow B0 112 1 u' ((ix v).length + 1) ((ix v).map (ptrI I) ++ [ptrI I t])) (hat : ∀ b, u'.ownBlock = some b → u.ownBlock = some b ∨ w.heap.size ≤ b) (hub : ∀ b, u.ownBlock = some b → B0 ≤ b ∧ allv.ownBlock ≠ some b ∧ ¬ Bad I lo k b) :
    Bld B0 n jb rb ab yv I lo (w'.setCell ⟨ab, v, none⟩ u') k ka allv (fun y => if y = v then ix v ++ [t] else ix y) := by
  have hc0 : Chg (fun b => u.ownBlock = some b) w w' := Chg.of_grown hg fun _ h => h
  have hc : Chg (fun b => u.ownBlock = some b ∨ b = ab) w (w'.setCell ⟨ab, v, none⟩ u') := (hc0.mono fun _ _ h => .inl h).trans (Chg.set _ _ _ _ (.inr rfl))
  obtain ⟨p1, p2, p3⟩ := h.parts hc fun b hb hf => by
    rcases hf with hf | hf
    · exact (hub b hf).2.2 hb
    · have := (Bad.lt h hb).1; have := h.ab_; omega
  refine { h with j := h.j.chg hc fun e => ?_, r := h.r.chg hc fun e => ?_, at_ := ?_, all := ?_, it := p1, tr := p2, rng := p3, ixlt := fun y i hi => ?_, z := Nat.le_trans h.z hc.size }
  · rcases e with e | e
    · have := (hub jb e).1; have := h.jb_; omega
    · exact h.ja e
  · rcases e with e | e
    · have := (hub rb e).1; have := h.rb_; omega
    · exact h.ra e
  · refine OwnAll.put h.at_ hv (fun y hy => ?_) ?_ hg hat fun b hb => ?_
    · simp only [if_neg hy]
    · simp only [if_pos]
      rw [List.length_append, List.length_singleton, List.map_append]
      exact hown
    · rcases hat b hb with h7 | h7
      · exact (hub b h7).2
      · exact ⟨fun e => by have := own_lt h.all b e; omega, fun hbad => by have := (Bad.lt h hbad).2; omega⟩
  · exact own_far (own_grown h.all hg fun b hb e => (hub b e.symm).2.1 hb) (fun e => absurd (own_base h.all e) (by have := h.ab_; show ¬ B0 ≤ ab; omega)) _
  · by_cases hy : y = v
    · simp only [if_pos hy] at hi
      rcases List.mem_append.1 hi with h1 | h1
      · exact h.ixlt v i h1
      · simp at h1; omega
    · simp only [if_neg hy] at hi
      exact h.ixlt y i hi
end

end Go.Proofs.Ytiomelogggilgaa
end

section
/- A search that has been set up is one. -/
namespace Go.Proofs.Ytiomelogggilgaa
open Go.RowKit Go.Sort

theorem asc_len : ∀ (vs : List Nat) (a n : Nat), vs.Pairwise (· < ·) → (∀ v ∈ vs, a ≤ v ∧ v < n) → vs.length ≤ n - a
  | [], _, _, _, _ => Nat.zero_le _
  | v :: t, a, n, h, hb => by
    obtain ⟨h1, h2⟩ := List.pairwise_cons.1 h
    have hv := hb v (by simp)
    have := asc_len t (v + 1) n h2 fun u hu => ⟨h1 u hu, (hb u (by simp [hu])).2⟩
    rw [List.length_cons]
    omega
def slA : Value → Option Addr | .slice A _ _ => A | _ => none
def slC : Value → Nat | .slice _ _ c => c | _ => 0

theorem Bld.eng {B0 n jb rb ab : Nat} {yf : Nat} {cap : Array Value} {I : Its} {lo : Nat → Nat} {w : World} {allv : Value} {ix : Nat → List Nat} {O0 : Nat → Prop} {M : Nat}
    (h : Bld B0 n jb rb ab (.func (.func yf) #[] cap) I lo w I.l.length I.l.length allv ix) (hix : ∀ v, v < n → ix v = idxV I.l v) (hat : ∀ a ∈ I.l, a.Ok n) (hP : ∀ a ∈ I.l, a.P.length ≤ 100000) (hu : ∀ v, v < n → ∃ a ∈ I.l, v ∈ a.vs) (hO : ∀ b, O0 b → b < B0) (hOjb : ∀ {b}, b = jb → ¬ O0 b) (hOrb : ∀ {b}, b = rb → ¬ O0 b) (hOab : ∀ {b}, b = ab → ¬ O0 b) (hn : n ≤ 32) (hl : I.l.length ≤ 64) (hM : ∀ a ∈ I.l, ∀ q, (RL.kids a.d a.P q).length ≤ M) :
    ∃ E : Eng, E.I = I ∧ E.n = n ∧ E.jb = jb ∧ E.Ok O0 w M ∧ E.yf = yf ∧ E.cap = cap ∧ E.St w (List.replicate n zv0) 0 (E.plc []) (fun _ => 0) ∧ (∀ b, E.EF b → b = jb ∨ b = rb ∨ B0 ≤ b) ∧ (∀ b, B0 ≤ b → ¬ Bad I lo I.l.length b → ¬ E.TF O0 b) := by
  obtain ⟨hs, h1, h2, h3, h3', h4, h5, h6⟩ := h.at_
  have hh : ∀ v (hv : v < n), hs.getD v .nilFunc = .slice (slA (hs.getD v .nilFunc)) (idxV I.l v).length (slC (hs.getD v .nilFunc)) ∧ w.ownsRow B0 112 1 (hs.getD v .nilFunc) (idxV I.l v).length ((idxV I.l v).map (ptrI I)) ∧ (∀ b, (hs.getD v .nilFunc).ownBlock = some b → ¬ Bad I lo I.l.length b) := fun v hv => by
    have hv' : v < hs.length := by omega
    have e : hs.getD v .nilFunc = hs[v] := by rw [List.getD_eq_getElem?_getD, List.getElem?_eq_getElem hv']; rfl
    have ho := h4 v hs[v] (List.getElem?_eq_getElem hv')
    simp only [hix v hv] at ho
    rw [e]
    obtain ⟨A, c, e2, -, -⟩ := Sl.of_own_n ho
    refine ⟨by rw [e2]; rfl, ho, fun b hb => (h6 v hs[v] b (List.getElem?_eq_getElem hv') hb).2⟩
  have hgl : ∀ i, i < I.l.length → I.a i ∈ I.l := fun i hi => getD_mem hi
  have hbad : ∀ i, i < I.l.length → Bad I lo I.l.length (I.g i) := fun i hi => ⟨i, hi, .inl rfl⟩
  let E : Eng := ⟨I, n, jb, rb, ab, fun v => slA (hs.getD v .nilFunc), fun v => slC (hs.getD v .nilFunc), yf, cap⟩
  have hown : ∀ v, v < n → ∀ ad, E.atA v = some ad → (hs.getD v .nilFunc).ownBlock = some ad.block := fun v hv ad e => by
    rcases (hh v hv).2.1.2 with ⟨e1, e0⟩ | ⟨g, c, cur, e1, -⟩
    · have : slA (hs.getD v .nilFunc) = some ad := e
      rw [e1] at this
      cases this
    · have : slA (hs.getD v .nilFunc) = some ad := e
      rw [e1] at this ⊢
      injection this with this
      rw [← this]
      rfl
  have hEB : ∀ b, E.EF b → b = jb ∨ b = rb ∨ Bad I lo I.l.length b := fun b hb => by
    rcases hb with hb | hb | ⟨i, hi, hb⟩
    · exact .inl hb
    · exact .inr (.inl hb)
    · exact .inr (.inr (by rw [hb]; exact hbad i hi))
  have hnTF : ∀ b, B0 ≤ b → ¬ Bad I lo I.l.length b → ¬ E.TF O0 b := fun b hb hnb ht => by
    rcases ht with ht | ht
    · rcases hEB b ht with e | e | e
      · have := h.jb_; omega
      · have := h.rb_; omega
      · exact hnb e
    · have := hO b ht; omega
  refine ⟨E, rfl, rfl, rfl, ?_, rfl, rfl, ⟨by simp [E], h.j, h.r, fun i hi => ?_⟩, fun b hb => (hEB b hb).imp id (Or.imp id fun h2 => (Bad.lt h h2).1), hnTF⟩
  · refine ⟨⟨fun i hi => ?_, fun i hi => hP _ (hgl i hi), fun i hi => (hat _ (hgl i hi)).len, fun i hi => (h.rng i hi).2.2.1, h.inj⟩, hat, hu, h.jr, fun i hi e => ?_, fun i hi e => ?_, fun b hb => ?_, fun b hb ho => ?_, fun v hv ad e hb => ?_, fun w' hc => ?_, by show n ≤ 64; omega, hl, fun i hi q => hM _ (hgl i hi) q⟩
    · have ha := hat _ (hgl i hi)
      have := asc_len _ 0 n ha.asc fun v hv => ⟨Nat.zero_le _, ha.lt v hv⟩
      show (I.a i).vs.length ≤ 32
      omega
    · have := (Bad.lt h (hbad i hi)).1; have := h.jb_; have h9 : I.g i = jb := e; omega
    · have := (Bad.lt h (hbad i hi)).1; have := h.rb_; have h9 : I.g i = rb := e; omega
    · rcases hEB b hb with e | e | e
      · rw [e]; exact h.j.lt
      · rw [e]; exact h.r.lt
      · exact (Bad.lt h e).2
    · have h9 := hO b ho
      rcases hb with e | e | ⟨i, hi, e⟩
      · exact hOjb e ho
      · exact hOrb e ho
      · have := (Bad.lt h (hbad i hi)).1; have h10 : b = I.g i := e; omega
    · have ho := hown v hv ad e
      rcases hEB _ hb with e2 | e2 | e2
      · have := own_base (hh v hv).2.1 ho; have := h.jb_; omega
      · have := own_base (hh v hv).2.1 ho; have := h.rb_; omega
      · exact (hh v hv).2.2 _ ho e2
    · refine ⟨?_, fun v hv => ?_, fun i hi => ⟨?_, ?_⟩⟩
      · have hr : Row w ab 106 ((List.range n).map fun v => Value.slice (E.atA v) (idxV E.I.l v).length (E.atC v)) := by
          have e : hs = (List.range n).map fun v => Value.slice (E.atA v) (idxV E.I.l v).length (E.atC v) := by
            refine List.ext_getElem (by simp [h2]) fun v hv1 hv2 => ?_
            have hv : v < n := by omega
            rw [List.getElem_map, List.getElem_range]
            have e1 := (hh v hv).1
            rw [List.getD_eq_getElem?_getD, List.getElem?_eq_getElem hv1] at e1
            have e3 : E.atA v = slA hs[v] := by show slA (hs.getD v .nilFunc) = _; rw [List.getD_eq_getElem?_getD, List.getElem?_eq_getElem hv1]; rfl
            have e4 : E.atC v = slC hs[v] := by show slC (hs.getD v .nilFunc) = _; rw [List.getD_eq_getElem?_getD, List.getElem?_eq_getElem hv1]; rfl
            rw [e3, e4]
            exact e1
          rw [← e]
          exact h1
        refine hr.chg hc fun ht => ?_
        rcases ht with ht | ht
        · rcases hEB ab ht with e | e | e
          · exact h.ja e.symm
          · exact h.ra e.symm
          · have := (Bad.lt h e).1; have := h.ab_; omega
        · exact hOab rfl ht
      · have ho := (hh v hv).2.1
        obtain ⟨A, c, e2, -, hsl⟩ := Sl.of_own_n ho
        have e3 : E.atA v = A := by show slA (hs.getD v .nilFunc) = A; rw [e2]; rfl
        have hb : ∀ ad, A = some ad → ¬ E.TF O0 ad.block := fun ad e => hnTF _ (own_base ho (hown v hv ad (e3.trans e))) ((hh v hv).2.2 _ (hown v hv ad (e3.trans e)))
        rw [e3]
        exact (hsl.chg hc (Nat.le_refl _) hb).more hc.size
      · have hr := h.rng i hi
        refine h.tr i hi w' fun p hp1 hp2 => hc.cell (by have h9 : I.B i ≤ I.g i := hr.2.2.1; omega) fun ht => ?_
        rcases ht with ht | ht
        · rcases ht with e | e | ⟨j, hj, e⟩
          · have := h.jb_; have h10 : p.block = jb := e; omega
          · have := h.rb_; have h10 : p.block = rb := e; omega
          · have h10 : p.block = I.g j := e
            exact h.sep j i hj hi ⟨by omega, by rw [← h10]; exact hp2⟩
        · have := hO _ ht; omega
      · have hr := h.rng i hi
        have := hc.size
        show I.B i ≤ w'.heap.size
        omega
  · have e : E.plc [] i = none := by show plcQ _ _ (pj _ []) = none; rw [pj_nil]; rfl
    rw [e]
    exact h.it i hi

theorem Bld.start {B0 n jb rb ab : Nat} {yv : Value} (I : Its) {w : World} (hj : Row w jb 105 [.slice (some ⟨rb, 0, none⟩) n n, .slice (some ⟨ab, 0, none⟩) n n, .int .i64 0, yv]) (hr : Row w rb 41 (rcells (List.replicate n zv0))) (ha : Row w ab 106 (List.replicate n (.slice none 0 0))) (h1 : jb < B0) (h2 : rb < B0) (h3 : ab < B0) (h4 : jb ≠ rb) (h5 : jb ≠ ab) (h6 : rb ≠ ab) (hz : B0 ≤ w.heap.size) (ix : Nat → List Nat) (hix : ∀ v, ix v = []) :
    Bld B0 n jb rb ab yv I (fun _ => 0) w 0 0 (.slice none 0 0) ix where
  j := hj
  r := hr
  at_ := by
    refine ⟨_, ha, by simp, h3, hz, fun i u hu => ?_, fun i j u u' k hu hu' _ hk => ?_, fun i u k hu hk => ?_⟩
    · have := List.mem_of_getElem? hu
      rw [List.mem_replicate] at this
      rw [this.2]
      simp only [hix]
      exact own_nil _ _ _ _
    · have := List.mem_of_getElem? hu
      rw [List.mem_replicate] at this
      rw [this.2] at hk
      cases hk
    · have := List.mem_of_getElem? hu
      rw [List.mem_replicate] at this
      rw [this.2] at hk
      cases hk
  all := own_nil _ _ _ _
  allq := fun b hb => by cases hb
  it := fun i hi => absurd hi (by omega)
  tr := fun i hi => absurd hi (by omega)
  rng := fun i hi => absurd hi (by omega)
  sep := fun i j hi => absurd hi (by omega)
  inj := fun i j hi => absurd hi (by omega)
  ixlt := fun v i hi => by rw [hix v] at hi; simp at hi
  kak := Nat.le_refl _
  jb_ := h1
  rb_ := h2
  ab_ := h3
  jr := h4
  ja := h5
  ra := h6
  z := hz
/-- The columns 0, 1, .. when c of them are written. -/
def colV (d c : Nat) : List Value := (List.range d).map fun i => if i < c then .int .i64 (i : Int) else .int .i64 0
theorem colV_zero (d : Nat) : colV d 0 = List.replicate d (.int .i64 0) := by
  refine List.ext_getElem (by simp [colV]) fun i h1 h2 => ?_
  simp [colV]
theorem colV_set {d c : Nat} (h : c < d) : (colV d c).set c (.int .i64 (c : Int)) = colV d (c + 1) := by
  refine List.ext_getElem (by simp [colV]) fun i h1 h2 => ?_
  by_cases e : i = c
  · subst e; simp [colV]
  · rw [List.getElem_set_ne (fun e' => e e'.symm)]
    simp only [colV, List.getElem_map, List.getElem_range]
    by_cases h3 : i < c
    · rw [if_pos h3, if_pos (by omega)]
    · rw [if_neg h3, if_neg (by omega)]
theorem colV_all (d : Nat) : colV d d = ((List.range d).map fun i : Nat => (i : Int)).map (Value.int .i64) := by
  refine List.ext_getElem (by simp [colV]) fun i h1 h2 => ?_
  have : i < d := by simpa [colV] using h1
  simp [colV, this]
theorem cols_ok (d : Nat) : newErr (d : Int) ((List.range d).map fun i : Nat => (i : Int)) = 0 := newErr_zero fun j hj => by
  have hj' : j < d := by simpa using hj
  unfold colErr
  rw [List.getD_eq_getElem?_getD, List.getElem?_map, List.getElem?_range hj']
  simp only [Option.map_some, Option.getD_some]
  rw [if_neg (by omega), if_neg]
  intro hm
  rw [← List.map_take] at hm
  obtain ⟨i, hi, e⟩ := List.mem_map.1 hm
  rw [List.take_range] at hi
  have := List.mem_range.1 hi
  omega
theorem proj_all {d : Nat} {x : RL.R} (h : x.length = d) : projF x ((List.range d).map fun i : Nat => (i : Int)) = x := by
  unfold projF
  refine List.ext_getElem (by simp [h]) fun i h1 h2 => ?_
  simp only [List.getElem_map, List.getElem_range, Int.toNat_natCast]
  rw [List.getD_eq_getElem?_getD, List.getElem?_eq_getElem h2]
  rfl
theorem proj_rows {d : Nat} {P : List RL.R} (hd : ∀ x ∈ P, x.length = d) (hS : RL.SS P) : RL.ofF (P.map (projF · ((List.range d).map fun i : Nat => (i : Int)))) = P := by
  have e : P.map (projF · ((List.range d).map fun i : Nat => (i : Int))) = P := by
    conv => rhs; rw [← List.map_id P]
    exact List.map_congr_left fun x hx => proj_all (hd x hx)
  rw [e]
  exact RL.ofF_self hS

end Go.Proofs.Ytiomelogggilgaa
end

section
/- Walk: leapfrog's run. -/
namespace Go.Proofs.Ytiomelogggilgaa
open Go.RowKit Go.Sort

theorem itpInfo : (Try.prog.info? 112).map (fun i => (i.zero, i.size, i.bytes)) = some (some (.pointer none), 1, 8) := by kernel_rfl
theorem itpsInfo : (Try.prog.info? 106).map (fun i => (i.zero, i.size, i.bytes)) = some (some (.slice none 0 0), 1, 24) := by kernel_rfl
theorem makeItps (n : Nat) (hn : n ≤ 1000000) (w : World) : (Instr.makeSlice 103 (.int .i64 (n : Int)) (.int .i64 (n : Int))).run Try.prog w = .ok (.slice (some ⟨w.heap.size, 0, none⟩) n n) (w.alloc (.cells (zerosA (.slice none 0 0) n) 106)) := by
  obtain ⟨i0, hi0, hz0, hz1, hz2⟩ := info_parts itpsInfo
  have := run_make (P := Try.prog) w 103 106 i0 _ Try.underlying103 hi0 hz0 .i64 .i64 n n (by omega) (by omega) (by rw [hz2]; omega) (by omega)
  rw [this, hz1]
  simp only [Int.toNat_natCast]
  rw [zeros_made _ _ rfl]
theorem makeInts35 (n : Nat) (hn : n ≤ 1000000) (w : World) : (Instr.makeSlice 25 (.int .i64 (n : Int)) (.int .i64 (n : Int))).run Try.prog w = .ok (.slice (some ⟨w.heap.size, 0, none⟩) n n) (w.alloc (.cells (zerosA (.int .i64 0) n) 3)) := by
  obtain ⟨i0, hi0, hz0, hz1, hz2⟩ := info_parts intInfo
  have := run_make (P := Try.prog) w 25 3 i0 _ Try.underlying25 hi0 hz0 .i64 .i64 n n (by omega) (by omega) (by rw [hz2]; omega) (by omega)
  rw [this, hz1]
  simp only [Int.toNat_natCast]
  rw [zeros_made _ _ rfl]

/-- append of one iterator to a list of the call's own. -/
theorem appP {w : World} {ops : Array Oper} {rest : List Oper} {o : Oper} {a : Act} {Q : Exit → Act → World → Prop} (hgd : o.guard = none) (s x : Operand)
    (ho : o.op = .call { callee := .builtin .append, args := #[s, x], argTypes := #[106, 106] })
    (base : Nat) (v : Value) (n : Nat) (xs : List Value) (hs : a.eval s = v) (hown : w.ownsRow base 112 1 v n xs)
    (g : Nat) (z : Option Addr) (hx : a.eval x = .slice (some ⟨g, 0, none⟩) 1 1) (hg : w.cell? ⟨g, 0, none⟩ = some (.pointer z))
    (hn : n ≤ 100000000) (hbase : base ≤ w.heap.size)
    (h : ∀ v' w', w'.ownsRow base 112 1 v' (n + 1) (xs ++ [.pointer z]) → w.grownBy w' v.ownBlock → (∀ b, v'.ownBlock = some b → v.ownBlock = some b ∨ w.heap.size ≤ b) → wpList Try.prog ops Q rest (a.put o.dst v') w') : wpList Try.prog ops Q (o :: rest) a w := by
  obtain ⟨i0, hi0, hz0, hz1, hz2⟩ := info_parts itpInfo
  have hlies : ∀ (K : Act → World → Prop), (∀ a w, wpList Try.prog ops Q rest a w → K a w) → Oper.wp Try.prog o a w K Q := fun K hK => by
    refine wp_append_lies w s x 106 ho base 112 i0 _ 1 8 Try.underlying106 hi0 hz0 hz1 hz2 rfl (by decide) v n xs hs hown ⟨g, 0, none⟩ 1 1 [.pointer z] hx rfl ?_ (by simp [Value.oneCell']) (by decide) (by simp only [maxLen]; omega) (by omega) hbase w.heap.size rfl fun g2 c2 w' k1 k2 k3 _ => hK _ _ (h _ w' k1 k2 fun b hb => ?_)
    · intro j u hu
      cases j with
      | zero => simp at hu; subst hu; exact hg
      | succ j => simp at hu
    · simp [Value.ownBlock] at hb
      subst hb
      rcases k3 with k3 | k3
      · exact .inl k3
      · exact .inr (by rw [k3]; exact Nat.le_refl _)
  exact wpList_plain hgd fun K hK => hlies K hK
/-- The same at a step of a drawn region. -/
theorem stepP {w : World} {ops : Array Oper} {o : Oper} {a : Act} {K : Act → World → Prop} {Q : Exit → Act → World → Prop} {E : Prop} (hgd : o.guard = none) (s x : Operand)
    (ho : o.op = .call { callee := .builtin .append, args := #[s, x], argTypes := #[106, 106] })
    (base : Nat) (v : Value) (n : Nat) (xs : List Value) (hs : a.eval s = v) (hown : w.ownsRow base 112 1 v n xs)
    (g : Nat) (z : Option Addr) (hx : a.eval x = .slice (some ⟨g, 0, none⟩) 1 1) (hg : Row w g 112 [.pointer z])
    (hn : n ≤ 100000000) (hbase : base ≤ w.heap.size)
    (h : ∀ g2 cap w', w'.ownsRow base 112 1 (.slice (some ⟨g2, 0, none⟩) (n + 1) cap) (n + 1) (xs ++ [.pointer z]) → w.grownBy w' v.ownBlock → (v.ownBlock = some g2 ∨ g2 = w.heap.size) → K (a.put o.dst (.slice (some ⟨g2, 0, none⟩) (n + 1) cap)) w') :
    if Region.wanted o (yielded ops a.tmps) = true then Oper.wp Try.prog o a w K Q else E := by
  obtain ⟨i0, hi0, hz0, hz1, hz2⟩ := info_parts itpInfo
  refine step_append_lies w hgd s x 106 ho base 112 i0 _ 1 8 Try.underlying106 hi0 hz0 hz1 hz2 rfl (by decide) v n xs hs hown ⟨g, 0, none⟩ 1 1 [.pointer z] hx rfl ?_ (by simp [Value.oneCell']) (by decide) (by simp only [maxLen]; omega) (by omega) hbase w.heap.size rfl fun g2 c2 w' k1 k2 k3 _ => h g2 c2 w' k1 k2 k3
  intro j u hu
  have := hg.cell j
  rw [hu] at this
  rw [Addr.add_lit, Nat.zero_add]
  exact this

end Go.Proofs.Ytiomelogggilgaa
end

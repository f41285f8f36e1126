/- Plain: a new edge inside an old one, hung below it. -/
import Derived.Test.YtfiegiifoekfmaaJRer2
namespace Go.Proofs.Ytfiegiifoekfmaa.JT

theorem par_app {ps : List Int} {p : Int} {v : Nat} (hv : v < ps.length) : par (ps ++ [p]) v = par ps v := by
  unfold par
  rw [List.getElem?_append_left hv]
theorem par_last (ps : List Int) (p : Int) : par (ps ++ [p]) ps.length = p := by simp [par]

theorem up_app {ps : List Int} {p : Int} (hv : ∀ q ∈ ps, -1 ≤ q ∧ q < ps.length) : ∀ (k : Nat) (v : Nat), v < ps.length → up (ps ++ [p]) k (v : Int) = up ps k (v : Int)
  | 0, _, _ => rfl
  | k + 1, v, h => by
    rw [up_succ (by simp; omega), up_succ h, par_app h]
    have hb := hv ps[v] (List.getElem_mem h)
    have hpar : par ps v = ps[v] := by simp [par, h]
    by_cases hneg : par ps v < 0
    · rw [up_neg hneg, up_neg hneg]
    · obtain ⟨q, hq⟩ := Int.eq_ofNat_of_zero_le (show 0 ≤ par ps v by omega)
      rw [hq]
      exact up_app hv k q (by omega)

theorem grow_ok {n : Nat} {es : List Nat} {ps : List Int} {a x : Nat} (h : chkF n es ps = 0) (hl12 : es.length ≤ 12) (ha : a < es.length) :
    chkF n (es ++ [(es[a]'ha) &&& x]) (ps ++ [(a : Int)]) = 0 ∧ sepF (es ++ [(es[a]'ha) &&& x]) (ps ++ [(a : Int)]) (es.length : Int) = (es[a]'ha) &&& x := by
  have hg : hgCheckF n es = 0 := by
    refine Classical.byContradiction fun h2 => ?_
    rw [chkF_hg h2] at h; exact h2 h
  have hl : ps.length = es.length := by
    refine Classical.byContradiction fun h2 => ?_
    rw [chkF_len hg h2] at h; omega
  have hr : rootedB ps = true := by
    cases h2 : rootedB ps with
    | true => rfl
    | false => rw [chkF_root hg hl h2] at h; omega
  have ht : TopsOk es ps := by
    refine Classical.byContradiction fun h2 => ?_
    rw [chkF_tops hg hl hr h2] at h; omega
  obtain ⟨n', hn', hn, _, hN⟩ := hgCheckF_zero hg
  obtain rfl : n = n' := by omega
  obtain ⟨hv, hroots, hup⟩ := rooted_parts hr
  have hle : (es[a]'ha) &&& x ≤ es[a]'ha := Nat.and_le_left
  have hNa := hN (es[a]'ha) (List.getElem_mem ha)
  generalize hc : (es[a]'ha) &&& x = c at *
  have hg2 : hgCheckF n (es ++ [c]) = 0 := hgCheckF_ok hn (by simp; omega) fun e he => by
    simp at he
    rcases he with he | rfl
    · exact hN e he
    · omega
  have hl2 : (ps ++ [(a : Int)]).length = (es ++ [c]).length := by simp [hl]
  have hv2 : ∀ p ∈ ps ++ [(a : Int)], -1 ≤ p ∧ p < (ps ++ [(a : Int)]).length := by
    intro p hp
    simp at hp
    rcases hp with hp | rfl
    · have := hv p hp; simp; omega
    · simp; omega
  have hr2 : rootedB (ps ++ [(a : Int)]) = true := by
    refine rootedB_true hv2 ?_ (whole_of_ex hv2 fun i hi => ?_)
    · unfold rootsF at hroots ⊢
      rw [List.countP_append, hroots]
      simp
    · simp at hi
      by_cases him : i < ps.length
      · exact ⟨ps.length, by rw [up_app hv _ _ him]; exact hup i him⟩
      · obtain rfl : i = ps.length := by omega
        refine ⟨ps.length + 1, ?_⟩
        rw [up_succ (by simp), par_last, up_app hv _ _ (by omega)]
        exact hup a (by omega)
  have hu : U32 es := fun e he => by
    have := hN e he
    have : 2 ^ n ≤ 2 ^ 32 := Nat.pow_le_pow_right (by omega) hn
    omega
  have hu2 : U32 (es ++ [c]) := fun e he => by
    simp at he
    rcases he with he | rfl
    · exact hu e he
    · have := hu _ (List.getElem_mem ha); omega
  have hga : (es ++ [c])[a]?.getD 0 = es[a]'ha := by rw [List.getElem?_append_left ha]; simp [ha]
  have hgm : (es ++ [c])[es.length]?.getD 0 = c := by simp
  have hpm : (ps ++ [(a : Int)])[es.length]?.getD 0 = (a : Int) := by rw [← hl]; simp
  refine ⟨chkF_ok hg2 hl2 hr2 ?_, ?_⟩
  · rw [topsOk_iff] at ht ⊢
    have hold : ∀ i v, i < es.length → (topF (es ++ [c]) (ps ++ [(a : Int)]) i).testBit v = (topF es ps i).testBit v := by
      intro i v hi
      rw [topF_bit hu2 hl2 hv2 (by simp; omega), topF_bit hu hl hv hi]
      have hpi : i < ps.length := by omega
      have hb := hv ps[i] (List.getElem_mem hpi)
      rw [List.getElem?_append_left hi, List.getElem?_append_left hpi]
      simp only [List.getElem?_eq_getElem hpi, Option.getD_some]
      by_cases hp0 : 0 ≤ ps[i]
      · rw [List.getElem?_append_left (by omega)]
      · rw [decide_eq_false hp0]; rfl
    have hnew : ∀ v, (topF (es ++ [c]) (ps ++ [(a : Int)]) es.length).testBit v = false := by
      intro v
      rw [topF_bit hu2 hl2 hv2 (by simp), hgm, hpm]
      simp only [Int.toNat_natCast]
      rw [hga, has_eq, has_eq, ← hc, Nat.testBit_and]
      cases (es[a]'ha).testBit v <;> simp
    rintro v i j hij hj ⟨h1, h2⟩
    simp at hj
    by_cases hjm : j < es.length
    · rw [hold i v (by omega)] at h1
      rw [hold j v hjm] at h2
      exact ht v i j hij hjm ⟨h1, h2⟩
    · obtain rfl : j = es.length := by omega
      rw [hnew v] at h2
      cases h2
  · unfold sepF
    rw [if_pos (by simp; omega)]
    simp only [Int.toNat_natCast]
    rw [hpm, if_pos (by simp; omega), hgm]
    simp only [Int.toNat_natCast]
    rw [hga, ← hc, Nat.and_assoc, Nat.and_comm x, ← Nat.and_assoc, Nat.and_self]

end Go.Proofs.Ytfiegiifoekfmaa.JT

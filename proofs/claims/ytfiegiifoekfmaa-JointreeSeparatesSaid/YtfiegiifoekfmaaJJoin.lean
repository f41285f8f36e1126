/- Plain facts about the running intersection property: the check by disjoint tops is the count of nodes and links. -/
import Derived.Test.YtfiegiifoekfmaaJOrd
namespace Go.Proofs.Ytfiegiifoekfmaa.JT

theorem has_eq (e v : Nat) : has e v = e.testBit v := by
  unfold has
  rw [Nat.testBit_eq_decide_div_mod_eq]
  rw [Bool.eq_iff_iff]
  simp

theorem has_int (e v : Nat) (he : e < 4294967296) : (((e : Int) / 2 ^ min v 32).tmod 2 == 1) = has e v := by
  have h1 : (e : Int) / 2 ^ min v 32 = ((e / 2 ^ v : Nat) : Int) := by
    have h2 : e / 2 ^ min v 32 = e / 2 ^ v := by
      by_cases hv : v ≤ 32
      · rw [Nat.min_eq_left hv]
      · rw [Nat.min_eq_right (by omega), Nat.div_eq_of_lt (show e < 2 ^ 32 by omega), Nat.div_eq_of_lt]
        exact Nat.lt_of_lt_of_le (show e < 2 ^ 32 by omega) (Nat.pow_le_pow_right (by omega) (by omega))
    rw [← h2]
    simp
  rw [h1]
  unfold has
  generalize e / 2 ^ v = q
  rw [Int.tmod_eq_emod_of_nonneg (by omega), Bool.eq_iff_iff, beq_iff_eq, beq_iff_eq]
  omega

def topF (es : List Nat) (ps : List Int) (i : Nat) : Nat := dif (es[i]?.getD 0) (sepF es ps (i : Int))
def seenTo (es : List Nat) (ps : List Int) : Nat → Nat
  | 0 => 0
  | k + 1 => seenTo es ps k ||| topF es ps k

def U32 (es : List Nat) : Prop := ∀ e ∈ es, e ≤ 4294967295

theorem U32.get {es : List Nat} (h : U32 es) (i : Nat) : es[i]?.getD 0 < 4294967296 := by
  by_cases hi : i < es.length
  · have := h es[i] (List.getElem_mem hi)
    simp [hi]; omega
  · simp [List.getElem?_eq_none (Nat.le_of_not_lt hi)]

theorem sepF_le (es : List Nat) (ps : List Int) (i : Nat) : sepF es ps (i : Int) ≤ es[i]?.getD 0 := by
  unfold sepF
  split
  · split
    · simp only [Int.toNat_natCast]
      exact Nat.and_le_left
    · exact Nat.zero_le _
  · exact Nat.zero_le _

theorem topF_lt {es : List Nat} {ps : List Int} (h : U32 es) (i : Nat) : topF es ps i < 4294967296 := dif_lt _ _ (h.get i)
theorem seenTo_lt {es : List Nat} {ps : List Int} (h : U32 es) : ∀ k, seenTo es ps k < 4294967296
  | 0 => by simp [seenTo]
  | k + 1 => by
    unfold seenTo
    have h1 := seenTo_lt (ps := ps) h k
    have h2 := topF_lt (ps := ps) h k
    exact Nat.or_lt_two_pow (n := 32) h1 h2

theorem seenTo_bit (es : List Nat) (ps : List Int) (v : Nat) : ∀ k, (seenTo es ps k).testBit v = true ↔ ∃ i, i < k ∧ (topF es ps i).testBit v = true
  | 0 => by simp [seenTo]
  | k + 1 => by
    unfold seenTo
    rw [Nat.testBit_or, Bool.or_eq_true, seenTo_bit es ps v k]
    constructor
    · rintro (⟨i, h1, h2⟩ | h)
      · exact ⟨i, by omega, h2⟩
      · exact ⟨k, by omega, h⟩
    · rintro ⟨i, h1, h2⟩
      by_cases hi : i < k
      · exact .inl ⟨i, hi, h2⟩
      · obtain rfl : i = k := by omega
        exact .inr h2

/-- The tops are disjoint. -/
def TopsOk (es : List Nat) (ps : List Int) : Prop := ∀ i, i < es.length → seenTo es ps i &&& topF es ps i = 0

theorem topsOk_iff (es : List Nat) (ps : List Int) : TopsOk es ps ↔ ∀ v i j, i < j → j < es.length → ¬ ((topF es ps i).testBit v = true ∧ (topF es ps j).testBit v = true) := by
  constructor
  · intro h v i j hij hj ⟨h1, h2⟩
    have h3 := h j hj
    have h4 : (seenTo es ps j &&& topF es ps j).testBit v = true := by
      rw [Nat.testBit_and, h2, (seenTo_bit es ps v j).2 ⟨i, hij, h1⟩]; rfl
    rw [h3] at h4
    simp at h4
  · intro h j hj
    apply Nat.eq_of_testBit_eq
    intro v
    rw [Nat.testBit_and, Nat.zero_testBit]
    cases h1 : (topF es ps j).testBit v
    · simp
    · rw [Bool.and_true]
      rw [Bool.eq_false_iff]
      intro h2
      obtain ⟨i, hi, h3⟩ := (seenTo_bit es ps v j).1 h2
      exact h v i j hi hj ⟨h3, h1⟩

theorem countP_le_one (p : Nat → Bool) : ∀ m, (List.range m).countP p ≤ 1 ↔ ∀ i j, i < j → j < m → ¬ (p i = true ∧ p j = true)
  | 0 => by simp
  | m + 1 => by
    rw [List.range_succ, List.countP_append]
    have hlast : List.countP p [m] = if p m then 1 else 0 := by simp [List.countP_cons]
    rw [hlast]
    constructor
    · intro h i j hij hj ⟨h1, h2⟩
      by_cases hjm : j < m
      · exact (countP_le_one p m).1 (by omega) i j hij hjm ⟨h1, h2⟩
      · obtain rfl : j = m := by omega
        rw [if_pos h2] at h
        have : (List.range j).countP p = 0 := by omega
        rw [List.countP_eq_zero] at this
        exact this i (List.mem_range.2 hij) h1
    · intro h
      by_cases hm : p m = true
      · rw [if_pos hm]
        have : (List.range m).countP p = 0 := by
          rw [List.countP_eq_zero]
          intro i hi h1
          exact h i m (List.mem_range.1 hi) (by omega) ⟨h1, hm⟩
        omega
      · rw [if_neg hm]
        exact (countP_le_one p m).2 fun i j hij hj => h i j hij (by omega)

theorem countP_split (p q : Nat → Bool) (l : List Nat) : l.countP p = l.countP (fun i => p i && q i) + l.countP (fun i => p i && !q i) := by
  induction l with
  | nil => rfl
  | cons a l ih =>
    simp only [List.countP_cons]
    cases p a <;> cases q a <;> simp <;> omega

theorem topF_bit {es : List Nat} {ps : List Int} (hu : U32 es) (hl : ps.length = es.length) (hv : ∀ p ∈ ps, -1 ≤ p ∧ p < ps.length) {i : Nat} (hi : i < es.length) (v : Nat) :
    (topF es ps i).testBit v = (has (es[i]?.getD 0) v && !(decide (0 ≤ ps[i]?.getD 0) && has (es[(ps[i]?.getD 0).toNat]?.getD 0) v)) := by
  unfold topF
  rw [testBit_dif _ _ _ (hu.get i) (Nat.lt_of_le_of_lt (sepF_le es ps i) (hu.get i)), has_eq, has_eq]
  have hb := hv ps[i] (List.getElem_mem (by omega))
  have hpi : ps[i]?.getD 0 = ps[i] := by simp [show i < ps.length by omega]
  unfold sepF
  rw [if_pos (by omega)]
  simp only [Int.toNat_natCast]
  rw [hpi]
  by_cases hp : 0 ≤ ps[i]
  · rw [if_pos (by omega), Nat.testBit_and]
    simp [hp]
    cases (es[i]?.getD 0).testBit v <;> simp
  · rw [if_neg (by omega)]
    simp [hp]

theorem joinB_iff {N : Nat} {es : List Nat} {ps : List Int} (hN : ∀ e ∈ es, e < 2 ^ N) (hN2 : N ≤ 32) (hl : ps.length = es.length) (hr : rootedB ps = true) : joinB N es ps = true ↔ TopsOk es ps := by
  have hu : U32 es := fun e he => by
    have := hN e he
    have : 2 ^ N ≤ 2 ^ 32 := Nat.pow_le_pow_right (by omega) hN2
    omega
  have hr' := hr
  unfold rootedB at hr'
  simp only [Bool.and_eq_true, List.all_eq_true, List.mem_range, decide_eq_true_eq] at hr'
  obtain ⟨⟨hvalid, _⟩, hup⟩ := hr'
  have hv : ∀ p ∈ ps, -1 ≤ p ∧ p < ps.length := by
    unfold validB at hvalid
    simp only [List.all_eq_true, Bool.and_eq_true, decide_eq_true_eq] at hvalid
    exact hvalid
  have hcnt : ∀ v, nodesF es v = linksF es ps v + (List.range es.length).countP (fun i => (topF es ps i).testBit v) := by
    intro v
    unfold nodesF linksF
    rw [countP_split _ (fun i => decide (0 ≤ ps[i]?.getD 0) && has (es[(ps[i]?.getD 0).toNat]?.getD 0) v)]
    congr 1
    · apply List.countP_congr
      intro i _
      unfold linkB
      rw [Bool.and_assoc]
    · apply List.countP_congr
      intro i hi
      rw [topF_bit hu hl hv (List.mem_range.1 hi)]
  have hone : ∀ v, 0 < nodesF es v → 0 < (List.range es.length).countP (fun i => (topF es ps i).testBit v) := by
    intro v hpos
    refine Classical.byContradiction fun hz => ?_
    have hz0 : (List.range es.length).countP (fun i => (topF es ps i).testBit v) = 0 := by omega
    rw [List.countP_eq_zero] at hz0
    unfold nodesF at hpos
    rw [List.countP_pos_iff] at hpos
    obtain ⟨i, hi, hiv⟩ := hpos
    have hch : ∀ k (i : Nat), i < es.length → has (es[i]?.getD 0) v = true → 0 ≤ up ps k (i : Int) := by
      intro k
      induction k with
      | zero => intro i _ _; simp [up]
      | succ k ih =>
        intro i hi hiv
        have h1 := hz0 i (List.mem_range.2 hi)
        rw [topF_bit hu hl hv hi, hiv] at h1
        simp at h1
        have hb := hv ps[i] (List.getElem_mem (by omega))
        have hpi : ps[i]?.getD 0 = ps[i] := by simp [show i < ps.length by omega]
        rw [hpi] at h1
        rw [up_succ (by omega), show par ps i = ps[i] by simp [par, show i < ps.length by omega]]
        obtain ⟨q, hq⟩ := Int.eq_ofNat_of_zero_le h1.1
        rw [hq]
        apply ih q (by omega)
        have h2 := h1.2
        rw [hq] at h2
        simpa using h2
    have h3 := hch ps.length i (List.mem_range.1 hi) hiv
    have h4 := hup i (by have := List.mem_range.1 hi; omega)
    omega
  rw [topsOk_iff]
  unfold joinB
  simp only [List.all_eq_true, List.mem_range, Bool.or_eq_true, beq_iff_eq]
  constructor
  · intro h v i j hij hj
    by_cases hvN : v < N
    · refine (countP_le_one (fun i => (topF es ps i).testBit v) es.length).1 ?_ i j hij hj
      have h1 := hcnt v
      rcases h v hvN with h2 | h2
      · omega
      · omega
    · rintro ⟨h1, _⟩
      rw [topF_bit hu hl hv (by omega)] at h1
      simp only [Bool.and_eq_true] at h1
      have h2 := h1.1
      rw [has_eq] at h2
      have h3 : es[i]?.getD 0 < 2 ^ v := by
        have h4 := hN es[i] (List.getElem_mem (show i < es.length by omega))
        have h5 : 2 ^ N ≤ 2 ^ v := Nat.pow_le_pow_right (by omega) (by omega)
        simp [show i < es.length by omega]
        omega
      rw [Nat.testBit_lt_two_pow h3] at h2
      cases h2
  · intro h v hvN
    have h1 := hcnt v
    have h2 := hone v
    have h3 := (countP_le_one (fun i => (topF es ps i).testBit v) es.length).2 (fun i j hij hj => h v i j hij hj)
    by_cases h0 : nodesF es v = 0
    · exact .inl h0
    · right
      have := h2 (by omega)
      omega

def nodesTo (es : List Nat) (v k : Nat) : Nat := (List.range k).countP fun i => has (es[i]?.getD 0) v
def linksTo (es : List Nat) (ps : List Int) (v k : Nat) : Nat := (List.range k).countP fun i => linkB es ps v i
theorem nodesTo_succ (es : List Nat) (v k : Nat) : nodesTo es v (k + 1) = nodesTo es v k + if has (es[k]?.getD 0) v then 1 else 0 := by
  unfold nodesTo
  rw [List.range_succ, List.countP_append]
  simp [List.countP_cons]
theorem linksTo_succ (es : List Nat) (ps : List Int) (v k : Nat) : linksTo es ps v (k + 1) = linksTo es ps v k + if linkB es ps v k then 1 else 0 := by
  unfold linksTo
  rw [List.range_succ, List.countP_append]
  simp [List.countP_cons]
theorem nodesTo_le (es : List Nat) (v k : Nat) : nodesTo es v k ≤ k := by
  have := List.countP_le_length (l := List.range k) (p := fun i => has (es[i]?.getD 0) v)
  simpa [nodesTo] using this
theorem linksTo_le (es : List Nat) (ps : List Int) (v k : Nat) : linksTo es ps v k ≤ k := by
  have := List.countP_le_length (l := List.range k) (p := fun i => linkB es ps v i)
  simpa [linksTo] using this
def vOk (es : List Nat) (ps : List Int) (v : Nat) : Prop := nodesTo es v es.length = 0 ∨ (nodesTo es v es.length : Int) - linksTo es ps v es.length = 1
theorem joinB_true {N : Nat} {es : List Nat} {ps : List Int} (h : ∀ v, v < N → vOk es ps v) : joinB N es ps = true := by
  unfold joinB
  simp only [List.all_eq_true, List.mem_range, Bool.or_eq_true, beq_iff_eq]
  exact h
theorem joinB_false {N : Nat} {es : List Nat} {ps : List Int} {v : Nat} (hv : v < N) (h : ¬ vOk es ps v) : joinB N es ps = false := by
  rw [Bool.eq_false_iff]
  intro h2
  unfold joinB at h2
  simp only [List.all_eq_true, List.mem_range, Bool.or_eq_true, beq_iff_eq] at h2
  exact h (h2 v hv)

/-- jointree.Check's answers. -/
theorem chkF_hg {N : Int} {es : List Nat} {ps : List Int} (h : hgCheckF N es ≠ 0) : chkF N es ps = hgCheckF N es := by unfold chkF; rw [if_pos h]
theorem chkF_len {N : Int} {es : List Nat} {ps : List Int} (h : hgCheckF N es = 0) (hl : ps.length ≠ es.length) : chkF N es ps = 28 := by
  unfold chkF; rw [if_neg (by simp [h]), if_pos hl]
theorem chkF_root {N : Int} {es : List Nat} {ps : List Int} (h : hgCheckF N es = 0) (hl : ps.length = es.length) (hr : rootedB ps = false) : chkF N es ps = 15 := by
  unfold chkF; rw [if_neg (by simp [h]), if_neg (by simp [hl]), if_pos hr]
theorem chkF_tops {N : Int} {es : List Nat} {ps : List Int} (h : hgCheckF N es = 0) (hl : ps.length = es.length) (hr : rootedB ps = true) (ht : ¬ TopsOk es ps) : chkF N es ps = 24 := by
  obtain ⟨n, rfl, hn, _, hN⟩ := hgCheckF_zero h
  have h1 := joinB_iff hN hn hl hr
  unfold chkF
  rw [if_neg (by simp [h]), if_neg (by simp [hl]), if_neg (by simp [hr]), if_pos]
  rw [Bool.eq_false_iff]
  intro h2
  exact ht (h1.1 (by simpa using h2))
theorem chkF_ok {N : Int} {es : List Nat} {ps : List Int} (h : hgCheckF N es = 0) (hl : ps.length = es.length) (hr : rootedB ps = true) (ht : TopsOk es ps) : chkF N es ps = 0 := by
  obtain ⟨n, rfl, hn, _, hN⟩ := hgCheckF_zero h
  have h1 := joinB_iff hN hn hl hr
  unfold chkF
  rw [if_neg (by simp [h]), if_neg (by simp [hl]), if_neg (by simp [hr]), if_neg]
  rw [Int.toNat_natCast, h1.2 ht]
  simp

end Go.Proofs.Ytfiegiifoekfmaa.JT

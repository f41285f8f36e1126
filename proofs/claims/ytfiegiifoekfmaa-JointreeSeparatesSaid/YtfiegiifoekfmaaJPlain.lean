/- Plain definitions: what the functions of the packages hypergraph and jointree compute, on lists. No program in sight. -/
namespace Go.Proofs.Ytfiegiifoekfmaa.JT

/-- a &^ b on 32 bits. -/
def dif (a b : Nat) : Nat := a &&& (4294967295 - b)

theorem testBit_dif (a b i : Nat) (ha : a < 4294967296) (hb : b < 4294967296) : (dif a b).testBit i = (a.testBit i && !b.testBit i) := by
  unfold dif
  rw [Nat.testBit_and, show 4294967295 - b = 2 ^ 32 - (b + 1) by omega, Nat.testBit_two_pow_sub_succ (by omega)]
  by_cases h : i < 32
  · simp [h]
  · have h2 : a.testBit i = false := Nat.testBit_lt_two_pow (Nat.lt_of_lt_of_le ha (by
      have : 2 ^ 32 ≤ 2 ^ i := Nat.pow_le_pow_right (by omega) (by omega)
      omega))
    simp [h2]

theorem dif_below (a n : Nat) (ha : a < 4294967296) (hn : n ≤ 32) : dif a (2 ^ n - 1) = 0 ↔ a < 2 ^ n := by
  have hb : 2 ^ n ≤ 2 ^ 32 := Nat.pow_le_pow_right (by omega) hn
  constructor
  · intro h
    apply Nat.lt_pow_two_of_testBit
    intro i hi
    have h3 := testBit_dif a (2 ^ n - 1) i ha (by omega)
    rw [h, Nat.testBit_two_pow_sub_one] at h3
    simp at h3
    cases h4 : a.testBit i
    · rfl
    · rw [h4] at h3; simp at h3; omega
  · intro h
    apply Nat.eq_of_testBit_eq
    intro i
    rw [testBit_dif a _ i ha (by omega), Nat.testBit_two_pow_sub_one]
    by_cases hi : i < n
    · simp [hi]
    · have h2 : a.testBit i = false := Nat.testBit_lt_two_pow (Nat.lt_of_lt_of_le h (Nat.pow_le_pow_right (by omega) (by omega)))
      simp [h2]

theorem dif_lt (a b : Nat) (ha : a < 4294967296) : dif a b < 4294967296 := by
  unfold dif
  exact Nat.lt_of_le_of_lt Nat.and_le_left ha

/-- hypergraph.Check: the error code. -/
def hgCheckF (N : Int) (es : List Nat) : Int :=
  if N < 0 ∨ 32 < N then 3 else if 64 < es.length then 12 else if es.all (fun e => decide (e < 2 ^ N.toNat)) then 0 else 1

theorem hgCheckF_ok {n : Nat} {es : List Nat} (hn : n ≤ 32) (hl : es.length ≤ 64) (h : ∀ e ∈ es, e < 2 ^ n) : hgCheckF n es = 0 := by
  unfold hgCheckF
  rw [if_neg (by omega), if_neg (by omega), if_pos (by simpa using h)]
theorem hgCheckF_bad {n : Nat} {es : List Nat} (hn : n ≤ 32) (hl : es.length ≤ 64) {e : Nat} (he : e ∈ es) (h : ¬ e < 2 ^ n) : hgCheckF n es = 1 := by
  unfold hgCheckF
  rw [if_neg (by omega), if_neg (by omega), if_neg]
  intro h2
  simp at h2
  exact h (h2 e he)
theorem hgCheckF_zero {N : Int} {es : List Nat} (h : hgCheckF N es = 0) : ∃ n : Nat, N = n ∧ n ≤ 32 ∧ es.length ≤ 64 ∧ ∀ e ∈ es, e < 2 ^ n := by
  unfold hgCheckF at h
  by_cases h1 : N < 0 ∨ 32 < N
  · rw [if_pos h1] at h; omega
  rw [if_neg h1] at h
  by_cases h2 : 64 < es.length
  · rw [if_pos h2] at h; omega
  rw [if_neg h2] at h
  obtain ⟨n, rfl⟩ := Int.eq_ofNat_of_zero_le (show 0 ≤ N by omega)
  refine ⟨n, rfl, by omega, by omega, ?_⟩
  by_cases h3 : (es.all fun e => decide (e < 2 ^ (n : Int).toNat)) = true
  · simpa using h3
  · rw [if_neg h3] at h; omega

/-- jointree.Separator. -/
def sepF (es : List Nat) (ps : List Int) (node : Int) : Nat :=
  if 0 ≤ node ∧ node < ps.length ∧ node < es.length then
    (if 0 ≤ ps[node.toNat]?.getD 0 ∧ ps[node.toNat]?.getD 0 < es.length then es[node.toNat]?.getD 0 &&& es[(ps[node.toNat]?.getD 0).toNat]?.getD 0 else 0)
  else 0

/-- The k-th ancestor; below 0: none. -/
def up (ps : List Int) : Nat → Int → Int
  | 0, v => v
  | k + 1, v => if v < 0 then v else up ps k (ps[v.toNat]?.getD 0)

def validB (ps : List Int) : Bool := ps.all fun p => decide (-1 ≤ p) && decide (p < ps.length)
def rootsF (ps : List Int) : Nat := ps.countP fun p => decide (p < 0)
/-- Do the parents describe a rooted tree? -/
def rootedB (ps : List Int) : Bool := validB ps && (rootsF ps == 1) && (List.range ps.length).all fun i => decide (up ps ps.length (i : Int) < 0)

def has (e v : Nat) : Bool := e / 2 ^ v % 2 == 1
def nodesF (es : List Nat) (v : Nat) : Nat := (List.range es.length).countP fun i => has (es[i]?.getD 0) v
def linkB (es : List Nat) (ps : List Int) (v i : Nat) : Bool :=
  has (es[i]?.getD 0) v && decide (0 ≤ ps[i]?.getD 0) && has (es[(ps[i]?.getD 0).toNat]?.getD 0) v
def linksF (es : List Nat) (ps : List Int) (v : Nat) : Nat := (List.range es.length).countP fun i => linkB es ps v i
/-- The running intersection property. -/
def joinB (N : Nat) (es : List Nat) (ps : List Int) : Bool :=
  (List.range N).all fun v => nodesF es v == 0 || ((nodesF es v : Int) - linksF es ps v == 1)

/-- jointree.Check: the error code. -/
def chkF (N : Int) (es : List Nat) (ps : List Int) : Int :=
  if hgCheckF N es ≠ 0 then hgCheckF N es else if ps.length ≠ es.length then 28 else if rootedB ps = false then 15 else if joinB N.toNat es ps = false then 24 else 0

end Go.Proofs.Ytfiegiifoekfmaa.JT

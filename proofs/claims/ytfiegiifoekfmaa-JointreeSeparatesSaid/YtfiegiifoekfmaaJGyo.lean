/- Plain: the reduction of a hypergraph, as hypergraph.Reduce performs it, and that it ends. -/
import Derived.Test.YtfiegiifoekfmaaJRer
namespace Go.Proofs.Ytfiegiifoekfmaa.JT

/-- May edge e be removed into edge i? -/
def absorbs (R : List Nat) (rem : List Bool) (e i : Nat) : Bool := !(e == i) && !(rem[e]?.getD true) && !(rem[i]?.getD true) && (dif (R[e]?.getD 0) (R[i]?.getD 0) == 0)
/-- Is e, i the first such pair? -/
def IsAbsorb (R : List Nat) (rem : List Bool) (e i : Nat) : Prop := e < R.length ∧ i < R.length ∧ absorbs R rem e i = true ∧ (∀ i', i' < i → absorbs R rem e i' = false) ∧ ∀ e', e' < e → ∀ i', i' < R.length → absorbs R rem e' i' = false
def NoAbsorb (R : List Nat) (rem : List Bool) : Prop := ∀ e, e < R.length → ∀ i, i < R.length → absorbs R rem e i = false

def absorbF (R : List Nat) (rem : List Bool) : Option (Nat × Nat) := (List.range R.length).findSome? fun e => ((List.range R.length).find? (absorbs R rem e)).map fun i => (e, i)

theorem absorbF_none {R : List Nat} {rem : List Bool} (h : NoAbsorb R rem) : absorbF R rem = none := by
  unfold absorbF
  rw [List.findSome?_eq_none_iff]
  intro e he
  rw [Option.map_eq_none_iff, List.find?_eq_none]
  intro i hi
  rw [h e (List.mem_range.1 he) i (List.mem_range.1 hi)]
  simp

theorem find_range {n k : Nat} {p : Nat → Bool} (hk : k < n) (hp : p k = true) (hm : ∀ j, j < k → p j = false) : (List.range n).find? p = some k := by
  rw [List.find?_range_eq_some]
  exact ⟨hp, List.mem_range.2 hk, fun j hj => by simp [hm j hj]⟩

theorem findSome_range {α : Type} {n k : Nat} {p : Nat → Option α} {x : α} (hk : k < n) (hp : p k = some x) (hm : ∀ j, j < k → p j = none) : (List.range n).findSome? p = some x := by
  induction n with
  | zero => omega
  | succ n ih =>
    rw [List.range_succ, List.findSome?_append]
    by_cases h : k < n
    · rw [ih h]; rfl
    · obtain rfl : k = n := by omega
      have : (List.range k).findSome? p = none := by
        rw [List.findSome?_eq_none_iff]
        intro j hj
        exact hm j (List.mem_range.1 hj)
      rw [this]
      simp [hp]

theorem absorbF_some {R : List Nat} {rem : List Bool} {e i : Nat} (h : IsAbsorb R rem e i) : absorbF R rem = some (e, i) := by
  obtain ⟨h1, h2, h3, h4, h5⟩ := h
  unfold absorbF
  apply findSome_range h1
  · rw [find_range h2 h3 h4]; rfl
  · intro e' he'
    rw [Option.map_eq_none_iff, List.find?_eq_none]
    intro i' hi'
    rw [h5 e' he' i' (List.mem_range.1 hi')]
    simp

/-- How many edges hold vertex v. -/
def vcnt (R : List Nat) (v k : Nat) : Nat := nodesTo R v k
/-- The last edge before k that holds v, or 0. -/
def vlast (R : List Nat) (v : Nat) : Nat → Nat
  | 0 => 0
  | k + 1 => if has (R[k]?.getD 0) v then k else vlast R v k
theorem vlast_le (R : List Nat) (v : Nat) : ∀ k, vlast R v k ≤ k
  | 0 => Nat.le_refl _
  | k + 1 => by
    unfold vlast
    split
    · omega
    · have := vlast_le R v k; omega
theorem vlast_has {R : List Nat} {v : Nat} : ∀ k, 0 < vcnt R v k → vlast R v k < k ∧ has (R[vlast R v k]?.getD 0) v = true
  | 0, h => by simp [vcnt, nodesTo] at h
  | k + 1, h => by
    unfold vlast
    by_cases hb : has (R[k]?.getD 0) v = true
    · rw [if_pos hb]; exact ⟨by omega, hb⟩
    · rw [if_neg hb]
      have h2 : 0 < vcnt R v k := by
        unfold vcnt at h ⊢
        rw [nodesTo_succ, if_neg hb] at h
        omega
      have := vlast_has k h2
      exact ⟨by omega, this.2⟩

def isolateF (n : Nat) (R : List Nat) : Option (Nat × Nat) := ((List.range n).find? fun v => vcnt R v R.length == 1).map fun v => (vlast R v R.length, v)
theorem isolateF_none {n : Nat} {R : List Nat} (h : ∀ v, v < n → vcnt R v R.length ≠ 1) : isolateF n R = none := by
  unfold isolateF
  rw [Option.map_eq_none_iff, List.find?_eq_none]
  intro v hv
  simpa using h v (List.mem_range.1 hv)
theorem isolateF_some {n v : Nat} {R : List Nat} (hv : v < n) (h1 : vcnt R v R.length = 1) (h : ∀ u, u < v → vcnt R u R.length ≠ 1) : isolateF n R = some (vlast R v R.length, v) := by
  unfold isolateF
  rw [find_range hv (by simpa using h1) (fun j hj => by simpa using h j hj)]
  rfl

/-- A step: the edge, the edge into which it is removed or -1, the vertex or -1. -/
abbrev Stp := Nat × Int × Int
/-- The state: the remaining sets, which edges are removed, the steps. -/
structure Red where
  rest : List Nat
  rem : List Bool
  steps : List Stp

def stepF (n : Nat) (s : Red) : Option Red :=
  match absorbF s.rest s.rem with
  | some (e, i) => some ⟨s.rest.set e 0, s.rem.set e true, s.steps ++ [(e, (i : Int), -1)]⟩
  | none => match isolateF n s.rest with
    | some (e, v) => some ⟨s.rest.set e (dif (s.rest[e]?.getD 0) (2 ^ v)), s.rem, s.steps ++ [(e, -1, (v : Int))]⟩
    | none => none

def runF (n : Nat) : Nat → Red → Red
  | 0, s => s
  | f + 1, s => match stepF n s with | some s' => runF n f s' | none => s

/-- What is left: the edges that are not removed, and the vertices of the sets. -/
def bitsOf (x : Nat) : Nat := (List.range 32).countP fun v => x.testBit v
def weight (s : Red) : Nat := s.rem.countP (fun b => !b) + (s.rest.map bitsOf).sum

def startF (es : List Nat) : Red := ⟨es, List.replicate es.length false, []⟩
def reduceF (n : Nat) (es : List Nat) : Red := runF n (weight (startF es)) (startF es)

theorem bitsOf_le (x : Nat) : bitsOf x ≤ 32 := by
  have := List.countP_le_length (l := List.range 32) (p := fun v => x.testBit v)
  simpa [bitsOf] using this

theorem sum_set (l : List Nat) (i a : Nat) (h : i < l.length) : (l.set i a).sum + l[i] = l.sum + a := by
  induction l generalizing i with
  | nil => simp at h
  | cons x l ih =>
    cases i with
    | zero => simp; omega
    | succ i =>
      simp only [List.set_cons_succ, List.sum_cons, List.getElem_cons_succ]
      have := ih i (by simpa using h)
      omega

theorem countP_set_true (l : List Bool) (i : Nat) (h : i < l.length) (hb : l[i] = false) : (l.set i true).countP (fun b => !b) + 1 = l.countP (fun b => !b) := by
  induction l generalizing i with
  | nil => simp at h
  | cons x l ih =>
    cases i with
    | zero => simp at hb; subst hb; simp
    | succ i =>
      simp only [List.set_cons_succ, List.countP_cons]
      have := ih i (by simpa using h) (by simpa using hb)
      omega

theorem bitsOf_less {x v : Nat} (hx : x < 4294967296) (hv : v < 32) (h : has x v = true) : bitsOf (dif x (2 ^ v)) + 1 = bitsOf x := by
  unfold bitsOf
  have h2 : 2 ^ v < 4294967296 := by
    have : 2 ^ v < 2 ^ 32 := Nat.pow_lt_pow_right (by omega) hv
    omega
  apply countP_one_less _ List.nodup_range _ _ v (List.mem_range.2 hv)
  · rw [← has_eq]; exact h
  · rw [testBit_dif _ _ _ hx h2, Nat.testBit_two_pow_self]; simp
  · intro u _ hne
    rw [testBit_dif _ _ _ hx h2, Nat.testBit_two_pow_of_ne (fun e => hne e.symm)]; simp

theorem weight_start (es : List Nat) : weight (startF es) ≤ 33 * es.length := by
  unfold weight startF
  simp only
  have h1 : (List.replicate es.length false).countP (fun b => !b) ≤ es.length := by
    have := List.countP_le_length (l := List.replicate es.length false) (p := fun b => !b)
    simpa using this
  have h2 : (es.map bitsOf).sum ≤ 32 * es.length := by
    clear h1
    induction es with
    | nil => simp
    | cons a l ih =>
      have := bitsOf_le a
      simp only [List.map_cons, List.sum_cons, List.length_cons]
      omega
  omega

/-- The state is well formed. -/
structure RedOk (m : Nat) (s : Red) : Prop where
  lrest : s.rest.length = m
  lrem : s.rem.length = m
  u32 : U32 s.rest
  zero : ∀ e : Nat, s.rem[e]? = some true → s.rest[e]?.getD 0 = 0

theorem RedOk.start {es : List Nat} (h : U32 es) : RedOk es.length (startF es) := by
  refine ⟨rfl, by simp [startF], h, fun e he => ?_⟩
  simp only [startF, List.getElem?_replicate] at he
  split at he <;> simp at he

theorem U32.set {R : List Nat} (h : U32 R) {e x : Nat} (hx : x < 4294967296) : U32 (R.set e x) := by
  intro y hy
  rcases List.mem_or_eq_of_mem_set hy with h1 | h1
  · exact h y h1
  · omega

theorem absorbs_parts {R : List Nat} {rem : List Bool} {e i : Nat} (h : absorbs R rem e i = true) : e ≠ i ∧ rem[e]? = some false ∧ rem[i]? = some false ∧ dif (R[e]?.getD 0) (R[i]?.getD 0) = 0 := by
  unfold absorbs at h
  simp only [Bool.and_eq_true, Bool.not_eq_true', beq_eq_false_iff_ne, beq_iff_eq] at h
  obtain ⟨⟨⟨h1, h2⟩, h3⟩, h4⟩ := h
  refine ⟨h1, ?_, ?_, h4⟩
  · cases h5 : rem[e]? with
    | none => rw [h5] at h2; simp at h2
    | some b => rw [h5] at h2; simp at h2; rw [h2]
  · cases h5 : rem[i]? with
    | none => rw [h5] at h3; simp at h3
    | some b => rw [h5] at h3; simp at h3; rw [h3]

/-- What a step is. -/
inductive StepIs (n : Nat) (s : Red) : Red → Prop where
  | absorb (e i : Nat) (h : IsAbsorb s.rest s.rem e i) : StepIs n s ⟨s.rest.set e 0, s.rem.set e true, s.steps ++ [(e, (i : Int), -1)]⟩
  | isolate (e v : Nat) (hno : NoAbsorb s.rest s.rem) (hv : v < n) (h1 : vcnt s.rest v s.rest.length = 1) (hu : ∀ u, u < v → vcnt s.rest u s.rest.length ≠ 1) (he : e = vlast s.rest v s.rest.length) : StepIs n s ⟨s.rest.set e (dif (s.rest[e]?.getD 0) (2 ^ v)), s.rem, s.steps ++ [(e, -1, (v : Int))]⟩

theorem StepIs.stepF {n : Nat} {s s' : Red} (h : StepIs n s s') : stepF n s = some s' := by
  cases h with
  | absorb e i h => unfold JT.stepF; rw [absorbF_some h]
  | isolate e v hno hv h1 hu he => unfold JT.stepF; rw [absorbF_none hno, isolateF_some hv h1 hu, he]

theorem stepF_none {n : Nat} {s : Red} (h1 : NoAbsorb s.rest s.rem) (h2 : ∀ v, v < n → vcnt s.rest v s.rest.length ≠ 1) : stepF n s = none := by
  unfold stepF; rw [absorbF_none h1, isolateF_none h2]

theorem StepIs.ok {n m : Nat} {s s' : Red} (h : StepIs n s s') (hs : RedOk m s) (hn : n ≤ 32) : RedOk m s' ∧ weight s' < weight s := by
  cases h with
  | absorb e i h =>
    obtain ⟨h1, h2, h3, h4, h5⟩ := h
    obtain ⟨p1, p2, p3, p4⟩ := absorbs_parts h3
    have hel : e < s.rem.length := (List.getElem?_eq_some_iff.1 p2).1
    have heb : s.rem[e] = false := (List.getElem?_eq_some_iff.1 p2).2
    constructor
    · refine ⟨by simp [hs.lrest], by simp [hs.lrem], hs.u32.set (by omega), fun x hx => ?_⟩
      by_cases hxe : e = x
      · subst hxe; simp [h1]
      · rw [List.getElem?_set_ne hxe] at hx ⊢
        exact hs.zero x hx
    · unfold weight
      simp only
      have c1 := countP_set_true s.rem e hel heb
      have c2 : ((s.rest.set e 0).map bitsOf).sum ≤ (s.rest.map bitsOf).sum := by
        rw [List.map_set]
        have := sum_set (s.rest.map bitsOf) e (bitsOf 0) (by simpa using h1)
        have hz : bitsOf 0 = 0 := by decide
        omega
      omega
  | isolate e v hno hv h1 hu he =>
    have hl := vlast_has (R := s.rest) (v := v) s.rest.length (by omega)
    rw [← he] at hl
    obtain ⟨hel, heh⟩ := hl
    have hgd : s.rest[e]?.getD 0 = s.rest[e] := by simp [hel]
    have hb := hs.u32.get e
    have h32 : v < 32 := by omega
    have hless := bitsOf_less hb h32 heh
    constructor
    · refine ⟨by simp [hs.lrest], hs.lrem, hs.u32.set (dif_lt _ _ hb), fun x hx => ?_⟩
      by_cases hxe : e = x
      · subst hxe
        have := hs.zero e hx
        rw [this] at heh
        simp [has] at heh
      · rw [List.getElem?_set_ne hxe]
        exact hs.zero x hx
    · unfold weight
      simp only
      rw [List.map_set]
      have := sum_set (s.rest.map bitsOf) e (bitsOf (dif (s.rest[e]?.getD 0) (2 ^ v))) (by simpa using hel)
      rw [List.getElem_map] at this
      rw [hgd] at hless this ⊢
      omega

theorem stepF_is {n : Nat} {s s' : Red} (h : stepF n s = some s') : StepIs n s s' := by
  unfold stepF at h
  cases ha : absorbF s.rest s.rem with
  | some p =>
    obtain ⟨e, i⟩ := p
    rw [ha] at h
    simp only [Option.some.injEq] at h
    subst h
    apply StepIs.absorb
    unfold absorbF at ha
    rw [List.findSome?_eq_some_iff] at ha
    obtain ⟨l1, e', l2, hl, hp, hall⟩ := ha
    rw [Option.map_eq_some_iff] at hp
    obtain ⟨i', hi', he'⟩ := hp
    injection he' with he1 he2
    subst he1 he2
    rw [List.find?_range_eq_some] at hi'
    have hrange : l1 = List.range e' ∧ e' < s.rest.length := by
      have hlen : l1.length < s.rest.length := by
        have := congrArg List.length hl
        simp at this; omega
      have hget : (List.range s.rest.length)[l1.length]? = some e' := by rw [hl]; simp
      rw [List.getElem?_range hlen] at hget
      injection hget with hget
      refine ⟨?_, by omega⟩
      have htake : (List.range s.rest.length).take l1.length = l1 := by rw [hl]; simp
      rw [← htake, List.take_range, hget, Nat.min_eq_left (by omega)]
    obtain ⟨hl1, hel⟩ := hrange
    refine ⟨hel, List.mem_range.1 hi'.2.1, hi'.1, fun i'' h2 => by simpa using hi'.2.2 i'' h2, fun e'' he'' i'' hi'' => ?_⟩
    have h3 := hall e'' (by rw [hl1]; exact List.mem_range.2 he'')
    rw [Option.map_eq_none_iff, List.find?_eq_none] at h3
    simpa using h3 i'' (List.mem_range.2 hi'')
  | none =>
    rw [ha] at h
    simp only at h
    have hno : NoAbsorb s.rest s.rem := by
      intro e he i hi
      unfold absorbF at ha
      rw [List.findSome?_eq_none_iff] at ha
      have h3 := ha e (List.mem_range.2 he)
      rw [Option.map_eq_none_iff, List.find?_eq_none] at h3
      simpa using h3 i (List.mem_range.2 hi)
    cases hi : isolateF n s.rest with
    | none => rw [hi] at h; simp at h
    | some p =>
      obtain ⟨e, v⟩ := p
      rw [hi] at h
      simp only [Option.some.injEq] at h
      subst h
      unfold isolateF at hi
      rw [Option.map_eq_some_iff] at hi
      obtain ⟨v', hv', he'⟩ := hi
      injection he' with he1 he2
      subst he2
      rw [List.find?_range_eq_some] at hv'
      exact StepIs.isolate e v' hno (List.mem_range.1 hv'.2.1) (by simpa using hv'.1) (fun u hu => by simpa using hv'.2.2 u hu) he1.symm

/-- States that the run comes through. -/
theorem runF_of {n m : Nat} (hn : n ≤ 32) : ∀ f s, RedOk m s → weight s ≤ f → stepF n (runF n f s) = none ∧ RedOk m (runF n f s)
  | 0, s, hs, hw => by
    refine ⟨?_, hs⟩
    show stepF n s = none
    cases h : stepF n s with
    | none => rfl
    | some s' => have := ((stepF_is h).ok hs hn).2; omega
  | f + 1, s, hs, hw => by
    unfold runF
    cases h : stepF n s with
    | none => exact ⟨h, hs⟩
    | some s' =>
      obtain ⟨h1, h2⟩ := (stepF_is h).ok hs hn
      exact runF_of hn f s' h1 (by omega)

/-- A walk through the steps that comes to a state without a step has come to the run's end. -/
def Reach (n : Nat) (es : List Nat) (s : Red) : Prop := runF n (weight s) s = reduceF n es
theorem Reach.start (n : Nat) (es : List Nat) : Reach n es (startF es) := rfl
theorem runF_more {n m : Nat} (hn : n ≤ 32) : ∀ f g s, RedOk m s → weight s ≤ f → weight s ≤ g → runF n f s = runF n g s
  | 0, 0, _, _, _, _ => rfl
  | 0, g + 1, s, hs, hf, _ => by
    have h : stepF n s = none := by
      cases h : stepF n s with
      | none => rfl
      | some s' => have := ((stepF_is h).ok hs hn).2; omega
    unfold runF; rw [h]
  | f + 1, 0, s, hs, _, hg => by
    have h : stepF n s = none := by
      cases h : stepF n s with
      | none => rfl
      | some s' => have := ((stepF_is h).ok hs hn).2; omega
    unfold runF; rw [h]
  | f + 1, g + 1, s, hs, hf, hg => by
    unfold runF
    cases h : stepF n s with
    | none => rfl
    | some s' =>
      obtain ⟨h1, h2⟩ := (stepF_is h).ok hs hn
      exact runF_more hn f g s' h1 (by omega) (by omega)
theorem Reach.step {n m : Nat} {es : List Nat} {s s' : Red} (hn : n ≤ 32) (hs : RedOk m s) (h : Reach n es s) (hst : StepIs n s s') : Reach n es s' := by
  obtain ⟨h1, h2⟩ := hst.ok hs hn
  unfold Reach at h ⊢
  rw [← h]
  obtain ⟨k, hk⟩ : ∃ k, weight s = k + 1 := ⟨weight s - 1, by omega⟩
  rw [hk, show runF n (k + 1) s = runF n k s' by rw [runF, hst.stepF]]
  exact runF_more hn _ _ s' h1 (Nat.le_refl _) (by omega)
theorem Reach.done {n : Nat} {es : List Nat} {s : Red} (h : Reach n es s) (hst : stepF n s = none) : s = reduceF n es := by
  unfold Reach at h
  rw [← h]
  cases hw : weight s with
  | zero => rfl
  | succ k => rw [runF, hst]

theorem reduceF_ok {n : Nat} {es : List Nat} (hu : U32 es) (hn : n ≤ 32) : RedOk es.length (reduceF n es) := (runF_of hn _ _ (RedOk.start hu) (Nat.le_refl _)).2
theorem reduceF_end {n : Nat} {es : List Nat} (hu : U32 es) (hn : n ≤ 32) : stepF n (reduceF n es) = none := (runF_of hn _ _ (RedOk.start hu) (Nat.le_refl _)).1

theorem runF_steps {n m : Nat} (hn : n ≤ 32) : ∀ f s, RedOk m s → (runF n f s).steps.length ≤ s.steps.length + weight s
  | 0, s, _ => by unfold runF; omega
  | f + 1, s, hs => by
    unfold runF
    cases h : stepF n s with
    | none => simp only; omega
    | some s' =>
      simp only
      have hst := stepF_is h
      obtain ⟨h1, h2⟩ := hst.ok hs hn
      have h3 := runF_steps hn f s' h1
      have h4 : s'.steps.length = s.steps.length + 1 := by cases hst <;> simp
      omega
theorem reduceF_steps {n : Nat} {es : List Nat} (hu : U32 es) (hn : n ≤ 32) : (reduceF n es).steps.length ≤ 33 * es.length := by
  have h1 := runF_steps hn (weight (startF es)) _ (RedOk.start hu)
  have h2 := weight_start es
  have h3 : (startF es).steps.length = 0 := rfl
  unfold reduceF
  omega

end Go.Proofs.Ytfiegiifoekfmaa.JT

/- Parts of the proof, merged: RRange, U4, K1, K2, K3, K4, I9, U1, E8, U2. -/
import Derived.Test.YtiomelogggilgaaQ3
import Derived.Test.YtiomelogggilgaaQ4
import Derived.Test.YtiomelogggilgaaQ1
import Derived.WalkLawsBesides
import Derived.Outline
import Derived.IntWalk
import Derived.Deep.AppendLies

section
/- Plain: the rows that begin with a row are a range of a sorted list; what lies below a node of a trie. -/
namespace Go.Proofs.Ytiomelogggilgaa.RL

theorem cmpR_append_ge : ∀ (r t : R), 0 ≤ cmpR (r ++ t) r
  | [], [] => by simp [cmpR, cmpL]
  | [], _ :: _ => by simp [cmpR, cmpL]
  | a :: r, t => by
    have h := cmpR_append_ge r t
    simp only [cmpR, cmpL, List.cons_append] at *
    rw [if_pos (tot_cmpV.self a)]
    exact h
theorem begins_of_lt {y r : R} (h : cmpR y r < 0) : beginsB y r = false := by
  cases hb : beginsB y r with
  | false => rfl
  | true =>
    obtain ⟨t, rfl⟩ := (beginsB_iff _ _).1 hb
    have := cmpR_append_ge r t
    omega
theorem take_rank_filter {Y : List R} (h : SS Y) (r : R) : (Y.take (rank Y r)).filter (fun y => beginsB y r) = [] := by
  rw [List.filter_eq_nil_iff]
  intro y hy
  rw [begins_of_lt (lt_rank h r y hy)]
  simp
theorem filter_prefix {D : List R} {p : R → Bool} (h : D.Pairwise fun a b => p b = true → p a = true) : D.filter p = D.take (D.countP p) := by
  induction D with
  | nil => simp
  | cons d D ih =>
    obtain ⟨h1, h2⟩ := List.pairwise_cons.1 h
    cases hp : p d
    · have hz : ∀ y ∈ D, ¬ p y = true := fun y hy hq => by have := h1 y hy hq; rw [hp] at this; cases this
      have e1 : D.filter p = [] := List.filter_eq_nil_iff.2 hz
      have e2 : D.countP p = 0 := List.countP_eq_zero.2 hz
      rw [List.filter_cons_of_neg (by simp [hp]), e1, List.countP_cons_of_neg (by simp [hp]), e2]
      simp
    · rw [List.filter_cons_of_pos hp, List.countP_cons_of_pos hp, List.take_succ_cons, ih h2]
theorem begins_pairwise {Y : List R} (h : SS Y) (r : R) : (Y.drop (rank Y r)).Pairwise fun a b => beginsB b r = true → beginsB a r = true := by
  refine List.Pairwise.imp_of_mem (fun {a b} ha hb hab hq => ?_) (h.drop (rank Y r))
  obtain ⟨t, rfl⟩ := (beginsB_iff _ _).1 hq
  obtain ⟨s, hs⟩ := between r a t (ge_rank h r a ha) (by omega)
  exact (beginsB_iff _ _).2 ⟨s, hs⟩
/-- The rows that begin with r are a range. -/
theorem filter_range {Y : List R} (h : SS Y) (r : R) : Y.filter (fun y => beginsB y r) = (Y.drop (rank Y r)).take (manyB Y r) := by
  conv => lhs; rw [← List.take_append_drop (rank Y r) Y, List.filter_append, take_rank_filter h r, List.nil_append]
  exact filter_prefix (begins_pairwise h r)
theorem manyB_all {Y : List R} (h : SS Y) (r : R) : manyB Y r = Y.countP fun y => beginsB y r := by
  conv => rhs; rw [← List.take_append_drop (rank Y r) Y, List.countP_append]
  have : (Y.take (rank Y r)).countP (fun y => beginsB y r) = 0 := by rw [List.countP_eq_length_filter, take_rank_filter h r]; rfl
  rw [this, Nat.zero_add]
  rfl


theorem cmpR_append_left : ∀ (q x y : R), cmpR (q ++ x) (q ++ y) = cmpR x y
  | [], _, _ => rfl
  | a :: q, x, y => by rw [List.cons_append, List.cons_append, cmpR_cons, if_pos (tot_cmpV.self a)]; exact cmpR_append_left q x y
theorem cmpR_one (a b : V) : cmpR [a] [b] = cmpV a b := by
  rw [cmpR_cons]
  split
  · rename_i h; rw [h]; simp [cmpR, cmpL]
  · rfl

/-- The last value of a row. -/
def lastV (y : R) : V := y.getLastD default
theorem lastV_snoc (q : R) (v : V) : lastV (q ++ [v]) = v := by unfold lastV; rw [List.getLastD_concat]
/-- Where the nodes below q begin on their level. -/
def lo (d : Nat) (P : List R) (q : R) : Nat := rank (nodes d P q.length) q
/-- The values below q, in order. -/
def kids (d : Nat) (P : List R) (q : R) : R := ((nodes d P q.length).filter (fun y => beginsB y q)).map lastV
section
variable {d : Nat} {P : List R}
theorem kids_len (q : R) : (kids d P q).length = manyB (nodes d P q.length) q := by
  unfold kids
  rw [List.length_map, manyB_all (nodes_ss _ _ _), List.countP_eq_length_filter]
theorem kids_fit (q : R) : lo d P q + (kids d P q).length ≤ (nodes d P q.length).length := by
  rw [kids_len]; exact manyB_le _ _
theorem kids_out {q : R} (h : d ≤ q.length) : kids d P q = [] := by unfold kids; rw [nodes_out h]; rfl
theorem lo_nil : lo d P [] = 0 := by
  unfold lo rank
  rw [List.countP_eq_zero]
  intro y _
  have := cmpR_append_ge [] y
  rw [List.nil_append] at this
  simp only [decide_eq_true_eq]
  omega
theorem kids_nil_len : (kids d P []).length = (nodes d P 0).length := by
  unfold kids
  rw [List.length_map, List.length_nil, List.filter_eq_self.2]
  intro y _
  simp [beginsB]
theorem node_snoc (hd : ∀ r ∈ P, r.length = d) {q y : R} (hy : y ∈ nodes d P q.length) (hb : beginsB y q = true) : y = q ++ [lastV y] := by
  obtain ⟨s, rfl⟩ := (beginsB_iff _ _).1 hb
  have hl := mem_nodes_len hd hy
  rw [List.length_append] at hl
  obtain ⟨v, rfl⟩ := List.length_eq_one_iff.1 (show s.length = 1 by omega)
  rw [lastV_snoc]
/-- The nodes below q, place by place. -/
theorem kids_get (hd : ∀ r ∈ P, r.length = d) (q : R) {i : Nat} (hi : i < (kids d P q).length) (h2 : lo d P q + i < (nodes d P q.length).length) : (nodes d P q.length)[lo d P q + i] = q ++ [(kids d P q)[i]] := by
  have hN := nodes_ss d P q.length
  have e : (nodes d P q.length).filter (fun y => beginsB y q) = ((nodes d P q.length).drop (lo d P q)).take (kids d P q).length := by rw [kids_len]; exact filter_range hN q
  have h3 : i < ((nodes d P q.length).filter (fun y => beginsB y q)).length := by have := hi; unfold kids at this; simpa using this
  have e2 : (kids d P q)[i] = lastV (((nodes d P q.length).filter (fun y => beginsB y q))[i]) := by
    rw [← Option.some_inj, ← List.getElem?_eq_getElem]
    unfold kids
    rw [List.getElem?_map, List.getElem?_eq_getElem h3]
    rfl
  have e3 : ((nodes d P q.length).filter (fun y => beginsB y q))[i] = (nodes d P q.length)[lo d P q + i] := by
    rw [← Option.some_inj, ← List.getElem?_eq_getElem, ← List.getElem?_eq_getElem, e, List.getElem?_take_of_lt hi, List.getElem?_drop]
  have hm := List.getElem_mem h3
  rw [List.mem_filter] at hm
  rw [e2, ← e3]
  exact node_snoc hd hm.1 hm.2
theorem mem_kids (hd : ∀ r ∈ P, r.length = d) {q : R} (hq : q.length < d) (v : V) : v ∈ kids d P q ↔ ∃ y ∈ P, y.take (q.length + 1) = q ++ [v] := by
  unfold kids
  rw [List.mem_map]
  constructor
  · rintro ⟨y, hy, rfl⟩
    rw [List.mem_filter] at hy
    obtain ⟨z, hz, e⟩ := (mem_nodes hq y).1 hy.1
    exact ⟨z, hz, by rw [e]; exact node_snoc hd hy.1 hy.2⟩
  · rintro ⟨y, hy, e⟩
    refine ⟨q ++ [v], List.mem_filter.2 ⟨(mem_nodes hq _).2 ⟨y, hy, e⟩, (beginsB_iff _ _).2 ⟨_, rfl⟩⟩, lastV_snoc q v⟩
theorem kids_asc (hd : ∀ r ∈ P, r.length = d) (q : R) : (kids d P q).Pairwise fun a b => cmpV a b < 0 := by
  unfold kids
  rw [List.pairwise_map]
  refine List.Pairwise.imp_of_mem (fun {a b} ha hb hab => ?_) ((nodes_ss d P q.length).filter _)
  rw [List.mem_filter] at ha hb
  rw [node_snoc hd ha.1 ha.2, node_snoc hd hb.1 hb.2, cmpR_append_left, cmpR_one] at hab
  exact hab
/-- A list of values, strictly ascending, is told by its members. -/
theorem asc_ext {X Y : R} (hX : X.Pairwise fun a b => cmpV a b < 0) (hY : Y.Pairwise fun a b => cmpV a b < 0) (h : ∀ v, v ∈ X ↔ v ∈ Y) : X = Y := by
  have h1 : SS (X.map fun v => [v]) := by unfold SS; rw [List.pairwise_map]; exact hX.imp fun {a b} hab => by rw [cmpR_one]; exact hab
  have h2 : SS (Y.map fun v => [v]) := by unfold SS; rw [List.pairwise_map]; exact hY.imp fun {a b} hab => by rw [cmpR_one]; exact hab
  have e := SS.ext h1 h2 (fun r => by simp only [List.mem_map, h])
  have := congrArg (List.map lastV) e
  simpa [List.map_map, Function.comp_def, lastV] using this
/-- Below a node that is not on the last level lies a node. -/
theorem kids_pos {q : R} (hq : q.length < d) (h : q = [] ∧ P ≠ [] ∨ ∃ l, l + 1 = q.length ∧ q ∈ nodes d P l) : 0 < (kids d P q).length := by
  unfold kids
  rw [List.length_map, List.length_pos_iff_exists_mem]
  rcases h with ⟨rfl, h⟩ | ⟨l, hl, h⟩
  · obtain ⟨y, hy⟩ := List.exists_mem_of_ne_nil _ h
    exact ⟨y.take 1, List.mem_filter.2 ⟨(mem_nodes hq _).2 ⟨y, hy, rfl⟩, by simp [beginsB]⟩⟩
  · obtain ⟨z, hz, e⟩ := child_mem (by omega) h
    rw [← hl]
    exact ⟨z, List.mem_filter.2 ⟨hz, (beginsB_iff _ _).2 ⟨z.drop (l + 1), by rw [← e]; exact (List.take_append_drop _ _).symm⟩⟩⟩
end

end Go.Proofs.Ytiomelogggilgaa.RL
end

section
/- Iterators over the trie of a relation: where they stand, told by the values on the path; each movement as one contract. -/
namespace Go.Proofs.Ytiomelogggilgaa
open Go.RowKit Go.Sort

/-- The values of a level, and where the children of its nodes begin. -/
def vsF (d : Nat) (P : List RL.R) (l : Nat) : RL.R := (RL.nodes d P l).map RL.lastV
def fsF (d : Nat) (P : List RL.R) (l : Nat) : List Nat := RL.firsts d P l ++ [(RL.nodes d P (l + 1)).length]
theorem vsF_len (d : Nat) (P : List RL.R) (l : Nat) : (vsF d P l).length = (RL.nodes d P l).length := by simp [vsF]
theorem fsF_len (d : Nat) (P : List RL.R) (l : Nat) : (fsF d P l).length = (RL.nodes d P l).length + 1 := by simp [fsF, RL.firsts]
theorem vsF_le (d : Nat) (P : List RL.R) (l : Nat) : (vsF d P l).length ≤ P.length := by rw [vsF_len]; exact RL.nodes_len d P l

/-- Where an iterator stands: at the root, or below the node q at its child number i (behind the last one, if i is their number). -/
abbrev Pl := Option (RL.R × Nat)
structure ItAt (d : Nat) (P : List RL.R) (t : It) (q : RL.R) (i : Nat) : Prop where
  L : t.L = q.length + 1
  ld : q.length < d
  le : i ≤ (RL.kids d P q).length
  pos : t.pos = RL.lo d P q + i
  fin : t.fin = RL.lo d P q + (RL.kids d P q).length
  up : ∀ j (h : j < q.length), ∃ k, t.ab (j + 1) = (RL.lo d P (q.take j) + k, RL.lo d P (q.take j) + (RL.kids d P (q.take j)).length) ∧ (RL.kids d P (q.take j))[k]? = some q[j]
def ItP (d : Nat) (P : List RL.R) (t : It) : Pl → Prop
  | none => t.L = 0
  | some (q, i) => ItAt d P t q i
/-- An iterator in memory at a place, with its number of steps. -/
def IterP (w : World) (g : Nat) (LA : Option Addr) (d C : Nat) (P : List RL.R) (x : Pl) (s : Nat) : Prop := ∃ t, ItM w g LA d C t ∧ t.steps = s ∧ ItP d P t x

/-- The movements. -/
def onX (d : Nat) (P : List RL.R) : Pl → Bool
  | none => false
  | some (q, i) => decide (i < (RL.kids d P q).length)
def keyV (d : Nat) (P : List RL.R) : Pl → RL.V
  | none => ⟨0, 0, ⟨#[]⟩⟩
  | some (q, i) => (RL.kids d P q).getD i ⟨0, 0, ⟨#[]⟩⟩
def openB (d : Nat) (P : List RL.R) : Pl → Bool
  | none => decide (0 < d) && decide (P ≠ [])
  | some (q, i) => decide (i < (RL.kids d P q).length) && decide (q.length + 1 < d)
def openX (d : Nat) (P : List RL.R) : Pl → Pl
  | none => if openB d P none then some ([], 0) else none
  | some (q, i) => if openB d P (some (q, i)) then some (q ++ [keyV d P (some (q, i))], 0) else some (q, i)
def upX (d : Nat) (P : List RL.R) : Pl → Pl
  | none => none
  | some (q, _) => if q = [] then none else some (q.dropLast, (RL.kids d P q.dropLast).idxOf (RL.lastV q))
def upB : Pl → Bool
  | none => false
  | some _ => true
def nextX (d : Nat) (P : List RL.R) : Pl → Pl
  | none => none
  | some (q, i) => if i < (RL.kids d P q).length then some (q, i + 1) else some (q, i)
def seekX (d : Nat) (P : List RL.R) (v : RL.V) : Pl → Pl
  | none => none
  | some (q, i) => if i < (RL.kids d P q).length then some (q, max i ((RL.kids d P q).countP fun u => decide (RL.cmpV u v < 0))) else some (q, i)
def levelX : Pl → Nat
  | none => 0
  | some (q, _) => q.length + 1

section
variable {w w' : World} {g : Nat} {LA : Option Addr} {d C : Nat} {P : List RL.R} {x : Pl} {s : Nat}
theorem IterP.up (h : IterP w g LA d C P x s) (hb : Below w.heap.size w w') : IterP w' g LA d C P x s := by
  obtain ⟨t, h1, h2, h3⟩ := h; exact ⟨t, h1.up hb, h2, h3⟩
theorem IterP.ext (h : IterP w g LA d C P x s) (hb : Ext w w') : IterP w' g LA d C P x s := h.up hb.below
theorem IterP.grown {row : Option Nat} (h : IterP w g LA d C P x s) (hb : w.grownBy w' row) (hne : some g ≠ row) : IterP w' g LA d C P x s := by
  obtain ⟨t, h1, h2, h3⟩ := h; exact ⟨t, h1.grown hb hne, h2, h3⟩
theorem IterP.lt (h : IterP w g LA d C P x s) : g < w.heap.size := by obtain ⟨t, h1, _⟩ := h; exact h1.lt

theorem onV_at {t : It} {q : RL.R} {i : Nat} (h : ItAt d P t q i) : onV t = decide (i < (RL.kids d P q).length) := by
  have h1 := h.L
  have h2 := h.pos
  have h3 := h.fin
  unfold onV
  rw [Bool.eq_iff_iff]
  simp
  omega
theorem onV_root {t : It} (h : t.L = 0) : onV t = false := by
  unfold onV
  rw [h]
  simp
theorem ok_at {t : It} {q : RL.R} {i : Nat} (h : ItAt d P t q i) (hP : P.length ≤ 100000) : ItOk d (vsF d P) t := by
  have h1 := h.L
  have h2 := h.ld
  have h3 := h.fin
  refine ⟨by omega, fun _ => ?_⟩
  have e : t.L - 1 = q.length := by omega
  rw [e]
  have h4 := vsF_le d P q.length
  have h5 := RL.kids_fit (d := d) (P := P) q
  rw [vsF_len] at h4 ⊢
  omega
theorem key_at (hd : ∀ r ∈ P, r.length = d) {q : RL.R} {j : Nat} (hj : j < (RL.kids d P q).length) (h2 : RL.lo d P q + j < (vsF d P q.length).length) : (vsF d P q.length)[RL.lo d P q + j] = (RL.kids d P q)[j] := by
  have h3 : RL.lo d P q + j < (RL.nodes d P q.length).length := by rw [vsF_len] at h2; exact h2
  have e := RL.kids_get hd q hj h3
  rw [← Option.some_inj, ← List.getElem?_eq_getElem]
  unfold vsF
  rw [List.getElem?_map, List.getElem?_eq_getElem h3, e]
  exact congrArg some (RL.lastV_snoc q _)
/-- A place whose path has values: the path is a node. -/
theorem at_node (hd : ∀ r ∈ P, r.length = d) {q : RL.R} {k : Nat} {v : RL.V} (h : (RL.kids d P q)[k]? = some v) : q ++ [v] ∈ RL.nodes d P q.length := by
  obtain ⟨h1, h2⟩ := List.getElem?_eq_some_iff.1 h
  have h3 := RL.kids_fit (d := d) (P := P) q
  have h4 : RL.lo d P q + k < (RL.nodes d P q.length).length := by omega
  rw [← h2, ← RL.kids_get hd q h1 h4]
  exact List.getElem_mem h4
end

set_option maxHeartbeats 1000000 in
theorem itKey (B g : Nat) (LA : Option Addr) (d C : Nat) (P : List RL.R) (x : Pl) (s : Nat) (w : World) (h : TrM B w LA d (vsF d P) (fsF d P)) (hB : B ≤ w.heap.size) (hi : IterP w g LA d C P x s) (hd : d ≤ 32) (hP : P.length ≤ 100000) (hr : ∀ r ∈ P, r.length = d) :
    Calls Try.prog 78 #[.pointer (some ⟨g, 0, none⟩)] w fun e w' => e = .returned (.tuple #[vv (keyV d P x), .bool (onX d P x)]) ∧ Below w.heap.size w w' := by
  obtain ⟨t, hi, hs, ht⟩ := hi
  match x, ht with
  | none, ht => exact tiKey_no g LA d C t w hi (onV_root ht)
  | some (q, i), ht =>
    have hon := onV_at ht
    by_cases hlt : i < (RL.kids d P q).length
    · have e0 : t.L - 1 = q.length := by have := ht.L; omega
      have e1 := ht.pos
      have e2 := RL.kids_fit (d := d) (P := P) q
      have hp : RL.lo d P q + i < (vsF d P q.length).length := by rw [vsF_len]; omega
      have hp' : t.pos < (vsF d P (t.L - 1)).length := by rw [e0, e1]; exact hp
      have e3 : (vsF d P (t.L - 1))[t.pos] = (RL.kids d P q)[i] := by
        rw [← key_at hr hlt hp]
        simp only [e0, e1]
      refine (tiKey_yes B g LA d C (vsF d P) (fsF d P) t w h hB hi (by omega) (by rw [hon]; simpa using hlt) (ok_at ht hP) hp').mono ?_
      rintro e w' ⟨rfl, hb⟩
      refine ⟨?_, hb⟩
      rw [e3]
      have e4 : keyV d P (some (q, i)) = (RL.kids d P q)[i] := by
        show (RL.kids d P q).getD i _ = _
        rw [List.getD_eq_getElem?_getD, List.getElem?_eq_getElem hlt]
        rfl
      rw [e4]
      have e5 : onX d P (some (q, i)) = true := by show decide _ = true; simpa using hlt
      rw [e5]
    · refine (tiKey_no g LA d C t w hi (by rw [hon]; simpa using hlt)).mono ?_
      rintro e w' ⟨rfl, hb⟩
      refine ⟨?_, hb⟩
      have e4 : keyV d P (some (q, i)) = ⟨0, 0, ⟨#[]⟩⟩ := by
        show (RL.kids d P q).getD i _ = _
        rw [List.getD_eq_getElem?_getD, List.getElem?_eq_none (by omega)]
        rfl
      have e5 : onX d P (some (q, i)) = false := by show decide _ = false; simpa using hlt
      rw [e4, e5]

theorem ext_grown {w w' : World} (h : Ext w w') (g : Nat) : w.grownBy w' (some g) := h.grown _

theorem itNext (_B g : Nat) (LA : Option Addr) (d C : Nat) (P : List RL.R) (x : Pl) (s : Nat) (w : World) (hi : IterP w g LA d C P x s) (hP : P.length ≤ 100000) :
    Calls Try.prog 77 #[.pointer (some ⟨g, 0, none⟩)] w fun e w' => e = .returned (.bool (onX d P (nextX d P x))) ∧ IterP w' g LA d C P (nextX d P x) s ∧ w.grownBy w' (some g) := by
  obtain ⟨t, hi, hs, ht⟩ := hi
  match x, ht with
  | none, ht =>
    refine (tiNext_no g LA d C t w hi (onV_root ht)).mono ?_
    rintro e w' ⟨rfl, hx⟩
    exact ⟨rfl, ⟨t, hi.ext hx, hs, ht⟩, hx.grown _⟩
  | some (q, i), ht =>
    have hon := onV_at ht
    by_cases hlt : i < (RL.kids d P q).length
    · have e1 : nextX d P (some (q, i)) = some (q, i + 1) := if_pos hlt
      have h1 : ItAt d P { t with pos := t.pos + 1 } q (i + 1) := ⟨ht.L, ht.ld, hlt, by show t.pos + 1 = _; rw [ht.pos]; omega, ht.fin, ht.up⟩
      have h2 := (ok_at ht hP).2 (by rw [ht.L]; omega)
      refine (tiNext_yes g LA d C t w hi (by rw [hon]; simpa using hlt) (by omega)).mono ?_
      rintro e w' ⟨rfl, hi', hg⟩
      rw [e1]
      exact ⟨by rw [onV_at h1]; rfl, ⟨_, hi', hs, h1⟩, hg⟩
    · have e1 : nextX d P (some (q, i)) = some (q, i) := if_neg hlt
      refine (tiNext_no g LA d C t w hi (by rw [hon]; simpa using hlt)).mono ?_
      rintro e w' ⟨rfl, hx⟩
      rw [e1]
      refine ⟨?_, ⟨t, hi.ext hx, hs, ht⟩, hx.grown _⟩
      have e5 : onX d P (some (q, i)) = false := by show decide _ = false; simpa using hlt
      rw [e5]

theorem itUp (g : Nat) (LA : Option Addr) (d C : Nat) (P : List RL.R) (x : Pl) (s : Nat) (w : World) (hi : IterP w g LA d C P x s) (hd : d ≤ 32) (hr : ∀ r ∈ P, r.length = d) :
    Calls Try.prog 79 #[.pointer (some ⟨g, 0, none⟩)] w fun e w' => e = .returned (.bool (upB x)) ∧ IterP w' g LA d C P (upX d P x) s ∧ w.grownBy w' (some g) := by
  obtain ⟨t, hi, hs, ht⟩ := hi
  match x, ht with
  | none, ht =>
    refine (tiUp_no g LA d C t w hi ht).mono ?_
    rintro e w' ⟨rfl, rfl⟩
    exact ⟨rfl, ⟨t, hi, hs, ht⟩, (Ext.refl _).grown _⟩
  | some (q, i), ht =>
    refine (tiUp_yes g LA d C t w hi (by rw [ht.L]; omega) (by rw [ht.L]; have := ht.ld; omega)).mono ?_
    rintro e w' ⟨rfl, hi', hg⟩
    refine ⟨rfl, ⟨_, hi', hs, ?_⟩, hg⟩
    rcases List.eq_nil_or_concat q with rfl | ⟨p, v, rfl⟩
    · have e1 : upX d P (some ([], i)) = none := by simp [upX]
      rw [e1]
      show t.L - 1 = 0
      rw [ht.L]
      rfl
    · simp only [List.concat_eq_append] at *
      have e1 : upX d P (some (p ++ [v], i)) = some (p, (RL.kids d P p).idxOf v) := by
        show (if _ then _ else _) = _
        rw [if_neg (by simp), List.dropLast_concat, RL.lastV_snoc]
      rw [e1]
      have hl := ht.L
      have hld := ht.ld
      rw [List.length_append, List.length_singleton] at hl hld
      obtain ⟨k, h1, h2⟩ := ht.up p.length (by simp)
      rw [List.take_left] at h1 h2
      have h3 : (p ++ [v])[p.length]'(by simp) = v := by simp
      rw [h3] at h2
      obtain ⟨hk, hk2⟩ := List.getElem?_eq_some_iff.1 h2
      have hnd : (RL.kids d P p).Nodup := (RL.kids_asc hr p).imp fun {a b} hab e => by rw [e, RL.tot_cmpV.self] at hab; omega
      have hix : (RL.kids d P p).idxOf v = k := by rw [← hk2]; exact hnd.idxOf_getElem k hk
      rw [hix]
      have el : t.L - 1 = p.length + 1 := by omega
      refine ⟨by show t.L - 1 = _; omega, by omega, by omega, ?_, ?_, fun j hj => ?_⟩
      · show (t.ab (t.L - 1)).1 = _
        rw [el, h1]
      · show (t.ab (t.L - 1)).2 = _
        rw [el, h1]
      · obtain ⟨k', h4, h5⟩ := ht.up j (by simp; omega)
        rw [List.take_append_of_le_length (by omega), List.getElem_append_left hj] at *
        exact ⟨k', h4, h5⟩

theorem itOpen (B g : Nat) (LA : Option Addr) (d C : Nat) (P : List RL.R) (x : Pl) (s : Nat) (w : World) (h : TrM B w LA d (vsF d P) (fsF d P)) (hB : B ≤ w.heap.size) (hi : IterP w g LA d C P x s) (hd : d ≤ 32) (hP : P.length ≤ 100000) (hr : ∀ r ∈ P, r.length = d) :
    Calls Try.prog 75 #[.pointer (some ⟨g, 0, none⟩)] w fun e w' => e = .returned (.bool (openB d P x)) ∧ IterP w' g LA d C P (openX d P x) s ∧ w.grownBy w' (some g) := by
  obtain ⟨t, hi, hs, ht⟩ := hi
  have hv0 : (vsF d P 0).length ≤ 1000000 := by have := vsF_le d P 0; omega
  have hk0 : (vsF d P 0).length = (RL.kids d P []).length := by rw [vsF_len, RL.kids_nil_len]
  match x, ht with
  | none, ht =>
    have ht : t.L = 0 := ht
    by_cases h0 : 0 < d
    rotate_left
    · obtain rfl : d = 0 := by omega
      refine (tiOpen_flat g LA C t w hi ht).mono ?_
      rintro e w' ⟨rfl, hx⟩
      exact ⟨rfl, ⟨t, hi.ext hx, hs, ht⟩, hx.grown _⟩
    · by_cases hPn : P = []
      · have e0 : openB d P none = false := by show (_ && _) = false; simp [hPn]
        have e1 : openX d P none = none := by show (if _ then _ else _) = none; rw [e0]; rfl
        rw [e0, e1]
        have hz : (vsF d P 0).length = 0 := by have := vsF_le d P 0; rw [hPn] at this ⊢; simpa using this
        refine (tiOpen_root0 B g LA d C (vsF d P) (fsF d P) t w h hB hi ht h0 hd hv0 hz).mono ?_
        rintro e w' ⟨rfl, hi', hg⟩
        exact ⟨rfl, ⟨t, hi', hs, ht⟩, hg⟩
      · have e0 : openB d P none = true := by show (_ && _) = true; simp [hPn, h0]
        have e1 : openX d P none = some ([], 0) := by show (if _ then _ else _) = _; rw [e0]; rfl
        rw [e0, e1]
        have hpos := RL.kids_pos (d := d) (P := P) (q := []) (by simpa using h0) (.inl ⟨rfl, hPn⟩)
        refine (tiOpen_root1 B g LA d C (vsF d P) (fsF d P) t w h hB hi ht h0 hd hv0 (by omega)).mono ?_
        rintro e w' ⟨rfl, hi', hg⟩
        refine ⟨rfl, ⟨_, hi', hs, ?_⟩, hg⟩
        exact ⟨by show t.L + 1 = _; rw [ht]; rfl, by simpa using h0, Nat.zero_le _, by rw [RL.lo_nil]; rfl, by rw [RL.lo_nil, ← hk0, Nat.zero_add]; rfl, fun j hj => absurd hj (by simp)⟩
  | some (q, i), ht =>
    have hon := onV_at ht
    have hL := ht.L
    have hld := ht.ld
    by_cases hlt : i < (RL.kids d P q).length
    rotate_left
    · have e0 : openB d P (some (q, i)) = false := by show (_ && _) = false; simp; omega
      have e1 : openX d P (some (q, i)) = some (q, i) := by show (if _ then _ else _) = _; rw [e0]; rfl
      rw [e0, e1]
      refine (tiOpen_end g LA d C t w hi (by omega) (by rw [hon]; simpa using hlt)).mono ?_
      rintro e w' ⟨rfl, hx⟩
      exact ⟨rfl, ⟨t, hi.ext hx, hs, ht⟩, hx.grown _⟩
    · by_cases hl2 : q.length + 1 < d
      rotate_left
      · have e0 : openB d P (some (q, i)) = false := by show (_ && _) = false; simp; omega
        have e1 : openX d P (some (q, i)) = some (q, i) := by show (if _ then _ else _) = _; rw [e0]; rfl
        rw [e0, e1]
        refine (tiOpen_last g LA d C t w hi (by omega) (by rw [hon]; simpa using hlt) (by omega)).mono ?_
        rintro e w' ⟨rfl, hx⟩
        exact ⟨rfl, ⟨t, hi.ext hx, hs, ht⟩, hx.grown _⟩
      · have e0 : openB d P (some (q, i)) = true := by show (_ && _) = true; simp; omega
        have ek : keyV d P (some (q, i)) = (RL.kids d P q)[i] := by
          show (RL.kids d P q).getD i _ = _
          rw [List.getD_eq_getElem?_getD, List.getElem?_eq_getElem hlt]
          rfl
        have e1 : openX d P (some (q, i)) = some (q ++ [(RL.kids d P q)[i]], 0) := by show (if _ then _ else _) = _; rw [e0, ek]; rfl
        rw [e0, e1]
        have hfit := RL.kids_fit (d := d) (P := P) q
        have el : t.L - 1 = q.length := by omega
        have ep := ht.pos
        have hm : RL.lo d P q + i < (RL.nodes d P q.length).length := by omega
        have hnode := RL.kids_get hr q hlt hm
        obtain ⟨c, hc⟩ : ∃ c, c = q ++ [(RL.kids d P q)[i]] := ⟨_, rfl⟩
        rw [← hc] at hnode ⊢
        have hcl : c.length = q.length + 1 := by rw [hc]; simp
        have hnl := RL.nodes_len d P q.length
        -- where the children begin and end
        have hf1 : (fsF d P q.length)[RL.lo d P q + i]? = some (RL.lo d P c) := by
          unfold fsF
          rw [List.getElem?_append_left (by simp [RL.firsts]; omega)]
          unfold RL.firsts
          rw [List.getElem?_map, List.getElem?_eq_getElem hm, hnode]
          unfold RL.lo
          rw [hcl]
          rfl
        have hf2 : (fsF d P q.length)[RL.lo d P q + i + 1]? = some (RL.lo d P c + (RL.kids d P c).length) := by
          rw [RL.kids_len, hcl]
          unfold fsF RL.lo
          rw [hcl]
          by_cases hlast : RL.lo d P q + i + 1 < (RL.nodes d P q.length).length
          · have hh := RL.firsts_next hr (l := q.length) hl2 hlast
            rw [hnode] at hh
            rw [List.getElem?_append_left (by simp [RL.firsts]; exact hlast)]
            unfold RL.firsts
            unfold RL.lo at hlast hh
            rw [List.getElem?_map, List.getElem?_eq_getElem hlast, ← hh]
            rfl
          · have hl3 : RL.lo d P q + i + 1 = (RL.nodes d P q.length).length := by omega
            have hh := RL.firsts_last hr (l := q.length) hl2 hl3
            rw [hnode] at hh
            unfold RL.lo at hl3
            rw [List.getElem?_append_right (by simp [RL.firsts]; omega), ← hh]
            simp [RL.firsts, hl3]
        have hpos := RL.kids_pos (d := d) (P := P) (q := c) (by omega) (.inr ⟨q.length, hcl.symm, by rw [← hnode]; exact List.getElem_mem hm⟩)
        obtain ⟨a1, a2⟩ := List.getElem?_eq_some_iff.1 hf1
        obtain ⟨b1, b2⟩ := List.getElem?_eq_some_iff.1 hf2
        have hff : ∀ (l p : Nat) (hl : l = q.length) (hp : p = RL.lo d P q + i) (h1 : p < (fsF d P l).length) (h2 : p + 1 < (fsF d P l).length), (fsF d P l)[p] = RL.lo d P c ∧ (fsF d P l)[p + 1] = RL.lo d P c + (RL.kids d P c).length := by
          intro l p hl hp h1 h2
          subst hl hp
          exact ⟨a2, b2⟩
        have hp1 : t.pos + 1 < (fsF d P (t.L - 1)).length := by rw [el, ep]; exact b1
        obtain ⟨f1, f2⟩ := hff (t.L - 1) t.pos el ep (by omega) hp1
        refine (tiOpen_down B g LA d C (vsF d P) (fsF d P) t w h hB hi (by omega) (by omega) hd (by rw [hon]; simpa using hlt) hv0 hp1 (by rw [fsF_len, el]; omega) (by rw [f1, f2]; omega)).mono ?_
        rintro e w' ⟨rfl, hi', hg⟩
        refine ⟨rfl, ⟨_, hi', hs, ?_⟩, hg⟩
        rw [f1, f2]
        refine ⟨by show t.L + 1 = _; omega, by omega, Nat.zero_le _, rfl, rfl, fun j hj => ?_⟩
        show ∃ k, (if j + 1 = t.L then (t.pos, t.fin) else t.ab (j + 1)) = _ ∧ _
        by_cases hjq : j = q.length
        · subst hjq
          refine ⟨i, ?_, ?_⟩
          · rw [if_pos (by omega), ht.pos, ht.fin]
            subst hc
            rw [List.take_left]
          · subst hc
            rw [List.take_left, List.getElem?_eq_getElem hlt]
            simp
        · obtain ⟨k', h4, h5⟩ := ht.up j (by omega)
          refine ⟨k', ?_, ?_⟩
          · rw [if_neg (by omega), h4]
            subst hc
            rw [List.take_append_of_le_length (by omega)]
          · subst hc
            rw [List.take_append_of_le_length (by omega), h5, List.getElem_append_left (by omega)]

theorem countP_asc {K : RL.R} {v : RL.V} (h : K.Pairwise fun a b => RL.cmpV a b < 0) {q : Nat} (hq : q ≤ K.length) (h1 : ∀ j (hj : j < K.length), j < q → RL.cmpV K[j] v < 0) (h2 : ∀ hj : q < K.length, ¬ RL.cmpV K[q] v < 0) : (K.countP fun u => decide (RL.cmpV u v < 0)) = q := by
  have e := List.take_append_drop q K
  conv => lhs; rw [← e, List.countP_append]
  have a1 : (K.take q).countP (fun u => decide (RL.cmpV u v < 0)) = (K.take q).length := List.countP_eq_length.2 fun u hu => by
    obtain ⟨j, hj, rfl⟩ := List.getElem_of_mem hu
    simp at hj
    rw [List.getElem_take]
    simpa using h1 j (by omega) (by omega)
  have a2 : (K.drop q).countP (fun u => decide (RL.cmpV u v < 0)) = 0 := List.countP_eq_zero.2 fun u hu => by
    obtain ⟨j, hj, rfl⟩ := List.getElem_of_mem hu
    simp at hj
    rw [List.getElem_drop]
    simp only [decide_eq_true_eq]
    intro hlt
    have h3 := h2 (by omega)
    rcases Nat.eq_zero_or_pos j with rfl | hj0
    · exact h3 hlt
    · have h4 := List.pairwise_iff_getElem.1 h q (q + j) (by omega) (by omega) (by omega)
      exact h3 (RL.tot_cmpV.tr _ _ _ h4 hlt)
  rw [a1, a2, List.length_take]
  omega
theorem countP_ge {K : RL.R} {v : RL.V} (h : K.Pairwise fun a b => RL.cmpV a b < 0) {q : Nat} (hq : q ≤ K.length) (h2 : ∀ hj : q < K.length, ¬ RL.cmpV K[q] v < 0) : (K.countP fun u => decide (RL.cmpV u v < 0)) ≤ q := by
  have e := List.take_append_drop q K
  conv => lhs; rw [← e, List.countP_append]
  have a1 := List.countP_le_length (p := fun u => decide (RL.cmpV u v < 0)) (l := K.take q)
  have a2 : (K.drop q).countP (fun u => decide (RL.cmpV u v < 0)) = 0 := List.countP_eq_zero.2 fun u hu => by
    obtain ⟨j, hj, rfl⟩ := List.getElem_of_mem hu
    simp at hj
    rw [List.getElem_drop]
    simp only [decide_eq_true_eq]
    intro hlt
    have h3 := h2 (by omega)
    rcases Nat.eq_zero_or_pos j with rfl | hj0
    · exact h3 hlt
    · have h4 := List.pairwise_iff_getElem.1 h q (q + j) (by omega) (by omega) (by omega)
      exact h3 (RL.tot_cmpV.tr _ _ _ h4 hlt)
  rw [a2]
  rw [List.length_take] at a1
  omega

theorem itSeek (B g : Nat) (LA : Option Addr) (d C : Nat) (P : List RL.R) (x : Pl) (s : Nat) (v : RL.V) (w : World) (h : TrM B w LA d (vsF d P) (fsF d P)) (hB : B ≤ w.heap.size) (hBg : B ≤ g) (hi : IterP w g LA d C P x s) (hd : d ≤ 32) (hP : P.length ≤ 100000) (hr : ∀ r ∈ P, r.length = d) (hs : s ≤ 100000000000000000) :
    Calls Try.prog 89 #[.pointer (some ⟨g, 0, none⟩), vv v] w fun e w' => ∃ s', e = .returned (.bool (onX d P (seekX d P v x))) ∧ IterP w' g LA d C P (seekX d P v x) s' ∧ s' ≤ s + 200002 ∧ w.grownBy w' (some g) := by
  obtain ⟨t, hi, rfl, ht⟩ := hi
  match x, ht with
  | none, ht =>
    refine (tiSeek_no g LA d C t v w hi (onV_root ht)).mono ?_
    rintro e w' ⟨rfl, hx⟩
    exact ⟨t.steps, rfl, ⟨t, hi.ext hx, rfl, ht⟩, by omega, hx.grown _⟩
  | some (q, i), ht =>
    have hon := onV_at ht
    by_cases hlt : i < (RL.kids d P q).length
    rotate_left
    · have e1 : seekX d P v (some (q, i)) = some (q, i) := if_neg hlt
      refine (tiSeek_no g LA d C t v w hi (by rw [hon]; simpa using hlt)).mono ?_
      rintro e w' ⟨rfl, hx⟩
      rw [e1]
      refine ⟨t.steps, ?_, ⟨t, hi.ext hx, rfl, ht⟩, by omega, hx.grown _⟩
      have e5 : onX d P (some (q, i)) = false := by show decide _ = false; simpa using hlt
      rw [e5]
    · have e1 : seekX d P v (some (q, i)) = some (q, max i ((RL.kids d P q).countP fun u => decide (RL.cmpV u v < 0))) := if_pos hlt
      rw [e1]
      have hasc := RL.kids_asc hr q (d := d)
      have el : t.L - 1 = q.length := by have := ht.L; omega
      have hfit := RL.kids_fit (d := d) (P := P) q
      have hnl := RL.nodes_len d P q.length
      have hpos := ht.pos
      have hfin := ht.fin
      have hltF : ∀ j (hj : j < (RL.kids d P q).length), ltF (vsF d P (t.L - 1)) v (RL.lo d P q + j) = decide (RL.cmpV (RL.kids d P q)[j] v < 0) := by
        intro j hj
        have hp : RL.lo d P q + j < (vsF d P q.length).length := by rw [vsF_len]; omega
        unfold ltF
        rw [el, List.getD_eq_getElem?_getD, List.getElem?_eq_getElem hp, key_at hr hj hp]
        rfl
      have hmono : ∀ j k, t.pos ≤ j → j ≤ k → k < t.fin → ltF (vsF d P (t.L - 1)) v k = true → ltF (vsF d P (t.L - 1)) v j = true := by
        intro j k h1 h2 h3 h4
        obtain ⟨j', rfl⟩ : ∃ j', j = RL.lo d P q + j' := ⟨j - RL.lo d P q, by omega⟩
        obtain ⟨k', rfl⟩ : ∃ k', k = RL.lo d P q + k' := ⟨k - RL.lo d P q, by omega⟩
        rw [hltF k' (by omega)] at h4
        rw [hltF j' (by omega)]
        simp only [decide_eq_true_eq] at h4 ⊢
        rcases Nat.lt_or_ge j' k' with h5 | h5
        · exact RL.tot_cmpV.tr _ _ _ (List.pairwise_iff_getElem.1 hasc j' k' (by omega) (by omega) h5) h4
        · obtain rfl : j' = k' := by omega
          exact h4
      refine (tiSeek_yes B g LA d C (vsF d P) (fsF d P) t v w h hB hBg hi (by omega) (by rw [hon]; simpa using hlt) (ok_at ht hP) hs hmono).mono ?_
      rintro e w' ⟨p, s', rfl, hi', h1, h2, h3, h4, h5, hg⟩
      obtain ⟨p', rfl⟩ : ∃ p', p = RL.lo d P q + p' := ⟨p - RL.lo d P q, by omega⟩
      have hmax : max i ((RL.kids d P q).countP fun u => decide (RL.cmpV u v < 0)) = p' := by
        have hge : ∀ hj : p' < (RL.kids d P q).length, ¬ RL.cmpV (RL.kids d P q)[p'] v < 0 := fun hj => by
          have := h4 (by omega)
          rw [hltF p' hj] at this
          simpa using this
        rcases Nat.lt_or_ge i p' with hip | hip
        · have hall : ∀ j (hj : j < (RL.kids d P q).length), j < p' → RL.cmpV (RL.kids d P q)[j] v < 0 := fun j hj hjp => by
            have hlast := h3 (RL.lo d P q + (p' - 1)) (by omega) (by omega)
            rw [hltF (p' - 1) (by omega)] at hlast
            simp only [decide_eq_true_eq] at hlast
            rcases Nat.lt_or_ge j (p' - 1) with h6 | h6
            · exact RL.tot_cmpV.tr _ _ _ (List.pairwise_iff_getElem.1 hasc j (p' - 1) hj (by omega) h6) hlast
            · obtain rfl : j = p' - 1 := by omega
              exact hlast
          rw [countP_asc hasc (by omega) hall hge]
          omega
        · obtain rfl : p' = i := by omega
          have := countP_ge hasc (by omega) hge
          omega
      rw [hmax]
      have hat : ItAt d P { t with pos := RL.lo d P q + p', steps := s' } q p' := ⟨ht.L, ht.ld, by omega, rfl, ht.fin, ht.up⟩
      refine ⟨s', ?_, ⟨_, hi', rfl, hat⟩, by omega, hg⟩
      have e5 : onX d P (some (q, p')) = decide (RL.lo d P q + p' < t.fin) := by
        show decide _ = _
        rw [Bool.eq_iff_iff]
        simp
        omega
      rw [e5]

theorem itSteps (g : Nat) (LA : Option Addr) (d C : Nat) (P : List RL.R) (x : Pl) (s : Nat) (w : World) (hi : IterP w g LA d C P x s) :
    Calls Try.prog 54 #[.pointer (some ⟨g, 0, none⟩)] w fun e w' => e = .returned (.int .i64 s) ∧ w = w' := by
  obtain ⟨t, hi, rfl, ht⟩ := hi
  exact tiSteps_any g LA d C t w hi
theorem itIter (LA : Option Addr) (d C : Nat) (P : List RL.R) (w : World) :
    Calls Try.prog 52 #[.agg #[.slice LA d C]] w fun e w' => ∃ g, e = .returned (.pointer (some ⟨g, 0, none⟩)) ∧ w.heap.size ≤ g ∧ IterP w' g LA d C P none 0 ∧ Below w.heap.size w w' :=
  (tiIter_any LA d C w).mono fun _ _ ⟨g, h1, h2, h3, h4⟩ => ⟨g, h1, h2, ⟨it0, h3, rfl, rfl⟩, h4⟩

end Go.Proofs.Ytiomelogggilgaa
end

section
/- Walks: the reference of layer 3: Compare, SameRows, CompareRows. -/
namespace Go.Proofs.Ytiomelogggilgaa
open Go.RowKit Go.Sort

theorem bytesLess_eq : ∀ x y : List UInt8, Op.bytesLess x y = decide (RL.cmpL RL.cmpB x y < 0)
  | x, [] => by cases x <;> simp [Op.bytesLess, RL.cmpL]
  | [], _ :: _ => by simp [Op.bytesLess, RL.cmpL]
  | a :: x, b :: y => by
    simp only [Op.bytesLess, RL.cmpL, bytesLess_eq x y, RL.cmpB, UInt8.lt_iff_toNat_lt]
    by_cases h1 : a.toNat < b.toNat
    · rw [if_pos h1]; simp [h1]
    · rw [if_neg h1]
      by_cases h2 : b.toNat < a.toNat
      · rw [if_pos h2]
        have : ¬ a = b := fun e => by rw [e] at h2; omega
        simp [h1, this]
      · rw [if_neg h2]
        have : a = b := by rw [← UInt8.toNat_inj]; omega
        simp [this]
theorem toList_data (a : ByteArray) : a.toList = a.data.toList := by rw [ByteArray.toList_eq]
theorem lessS (a b : ByteArray) : Op.bytesLess a.toList b.toList = decide (RL.cmpS a b < 0) := by
  rw [bytesLess_eq, toList_data, toList_data]
  unfold RL.cmpS
  rw [RL.compareBytes_eq]

theorem cmpI_lt {a b : Int} (h : a < b) : RL.cmpI a b = -1 := by unfold RL.cmpI; rw [if_pos h]
theorem cmpI_gt {a b : Int} (h : b < a) : RL.cmpI a b = 1 := by unfold RL.cmpI; rw [if_neg (by omega), if_pos h]

end Go.Proofs.Ytiomelogggilgaa
end

section
/- Walks: the reference of layer 3: SameRows, CompareRows. -/
namespace Go.Proofs.Ytiomelogggilgaa
open Go.RowKit Go.Sort

theorem run_eqV (u v : RL.V) (w : World) : (binOp .eql 41 (vv u) (vv v)).run Try.prog w = .ok (.bool (decide (u = v))) w := by
  simp [go_sem, RL.V.ext_iff, toList_data]
  by_cases h1 : u.kind = v.kind
  · by_cases h2 : u.int = v.int
    · by_cases h3 : u.str = v.str
      · simp [h1, h2, h3]
      · have : ¬ u.str.data.toList = v.str.data.toList := fun e => h3 (RL.str_ext e)
        simp only [if_pos h1, if_pos h2]
        rw [if_neg (by simpa using this)]
        simp [h1, h2, h3]
    · simp [h1, h2]
  · simp [h1]
theorem run_neV (u v : RL.V) (w : World) : (binOp .neq 41 (vv u) (vv v)).run Try.prog w = .ok (.bool (!decide (u = v))) w := by
  simp [go_sem, RL.V.ext_iff, toList_data]
  by_cases h1 : u.kind = v.kind
  · by_cases h2 : u.int = v.int
    · by_cases h3 : u.str = v.str
      · simp [h1, h2, h3]
      · have : ¬ u.str.data.toList = v.str.data.toList := fun e => h3 (RL.str_ext e)
        simp only [if_pos h1, if_pos h2]
        rw [if_neg (by simpa using this)]
        simp [h1, h2, h3]
    · simp [h1, h2]
  · simp [h1]
theorem run_neV_f {u v : RL.V} (h : u ≠ v) (w : World) : (binOp .neq 41 (vv u) (vv v)).run Try.prog w = .ok (.bool true) w := by rw [run_neV]; simp [h]
theorem run_neV_t {u v : RL.V} (h : u = v) (w : World) : (binOp .neq 41 (vv u) (vv v)).run Try.prog w = .ok (.bool false) w := by rw [run_neV]; simp [h]
theorem run_eqV_f {u v : RL.V} (h : u ≠ v) (w : World) : (binOp .eql 41 (vv u) (vv v)).run Try.prog w = .ok (.bool false) w := by rw [run_eqV]; simp [h]
theorem run_eqV_t {u v : RL.V} (h : u = v) (w : World) : (binOp .eql 41 (vv u) (vv v)).run Try.prog w = .ok (.bool true) w := by rw [run_eqV]; simp [h]

theorem rowEq_step {x y : RL.R} {k : Nat} (h1 : k < x.length) (h2 : k < y.length) : (x.drop k = y.drop k) ↔ (x[k] = y[k] ∧ x.drop (k + 1) = y.drop (k + 1)) := by
  rw [List.drop_eq_getElem_cons h1, List.drop_eq_getElem_cons h2, List.cons.injEq]

end Go.Proofs.Ytiomelogggilgaa
end

section
/- Walks: the laws of chapter 34: Value, great, same. -/
namespace Go.Proofs.Ytiomelogggilgaa
open Go.RowKit Go.Sort

/-- The value of a number below 256. -/
def valN (n : Nat) : RL.V := if 99 < n then ⟨2, 0, ⟨#[UInt8.ofNat n]⟩⟩ else ⟨1, n, ⟨#[]⟩⟩

end Go.Proofs.Ytiomelogggilgaa
end

section
/- Walk: Rows of chapter 34's laws. -/
namespace Go.Proofs.Ytiomelogggilgaa
open Go.RowKit Go.Sort

/-- The slice at address A reads as the arrays X of m bytes. -/
def SlA (m B : Nat) (w : World) (A : Option Addr) (X : List (List Nat)) : Prop :=
  X ≠ [] → ∃ b o, A = some ⟨b, o, none⟩ ∧ b < B ∧ ∀ i (h : i < X.length) k, k < m → w.cell? ⟨b, o + i * m + k, none⟩ = some (.int .u8 (X[i].getD k 0 : Nat))
theorem SlA.keep {m B : Nat} {w w' : World} {A : Option Addr} {X : List (List Nat)} (h : SlA m B w A X) (hk : ∀ p : Addr, p.block < B → w'.cell? p = w.cell? p) : SlA m B w' A X := fun hn => by
  obtain ⟨b, o, e, hb, hc⟩ := h hn
  exact ⟨b, o, e, hb, fun i hi k hkm => (hk _ hb).trans (hc i hi k hkm)⟩
theorem SlA.below {m B C : Nat} {w w' : World} {A : Option Addr} {X : List (List Nat)} (h : SlA m B w A X) (hb : Below C w w') (hC : B ≤ C) : SlA m B w' A X := h.keep fun _ hp => hb.cell (by omega)
theorem SlA.more {m B B' : Nat} {w : World} {A : Option Addr} {X : List (List Nat)} (h : SlA m B w A X) (hB : B ≤ B') : SlA m B' w A X := fun hn => by
  obtain ⟨b, o, e, hb, hc⟩ := h hn
  exact ⟨b, o, e, by omega, hc⟩
theorem SlA.upB {m : Nat} {w w' : World} {A : Option Addr} {X : List (List Nat)} (h : SlA m w.heap.size w A X) (hb : Below w.heap.size w w') : SlA m w'.heap.size w' A X := (h.below hb (Nat.le_refl _)).more hb.size
/-- The numbers are bytes. -/
def Bytes (X : List (List Nat)) : Prop := ∀ t ∈ X, ∀ k, t.getD k 0 < 256

/-- The first n values of a row of numbers. -/
def rowN (n : Nat) (t : List Nat) : RL.R := (List.range n).map fun k => valN (t.getD k 0)
theorem rowN_len (n : Nat) (t : List Nat) : (rowN n t).length = n := by simp [rowN]
theorem rowN_succ (k : Nat) (t : List Nat) : rowN (k + 1) t = rowN k t ++ [valN (t.getD k 0)] := by unfold rowN; rw [List.range_succ, List.map_append]; rfl

/-- A new slice of no elements in a block of its own. -/
theorem own_empty (w : World) (base : Nat) (e : TypeId) (size : Nat) (hb : base ≤ w.heap.size) : (w.alloc (.cells #[] e)).ownsRow base e size (.slice (some ⟨w.heap.size, 0, none⟩) 0 0) 0 [] :=
  ⟨by simp, .inr ⟨w.heap.size, 0, #[], rfl, hb, Row.new w e [], Nat.le_refl _, by simp [maxLen], by simp, by simp⟩⟩

end Go.Proofs.Ytiomelogggilgaa
end

section
/- Walk: trie.shared. -/
namespace Go.Proofs.Ytiomelogggilgaa
open Go.RowKit Go.Sort

theorem sharedN_eq : ∀ (x y : RL.R) (k : Nat), x.take k = y.take k → k ≤ x.length → k ≤ y.length → (∀ (h1 : k < x.length) (h2 : k < y.length), x[k] ≠ y[k]) → RL.sharedN x y = k
  | [], y, k, _, h1, _, _ => by simp at h1; subst h1; simp [RL.sharedN]
  | a :: x, [], k, _, _, h2, _ => by simp at h2; subst h2; simp [RL.sharedN]
  | a :: x, b :: y, 0, _, _, _, h => by
    have h0 := h (by simp) (by simp)
    simp at h0
    unfold RL.sharedN
    rw [if_neg h0]
  | a :: x, b :: y, k + 1, he, h1, h2, h => by
    rw [List.take_succ_cons, List.take_succ_cons] at he
    injection he with e1 e2
    unfold RL.sharedN
    rw [if_pos e1, sharedN_eq x y k e2 (by simpa using h1) (by simpa using h2) (fun a1 a2 => by have := h (by simpa using a1) (by simpa using a2); simpa using this)]

theorem takeV_snoc {x y : RL.R} {k : Nat} (hx : k < x.length) (hy : k < y.length) (h : x.take k = y.take k) (e : x[k] = y[k]) : x.take (k + 1) = y.take (k + 1) := by
  rw [List.take_succ_eq_append_getElem hx, List.take_succ_eq_append_getElem hy, h, e]

set_option maxHeartbeats 2000000 in
set_option maxRecDepth 100000 in
theorem trShared_any (XA YA : Option Addr) (XC YC : Nat) (x y : RL.R) (w : World) (hx : SlR w.heap.size w XA x) (hy : SlR w.heap.size w YA y) (hl : x.length ≤ y.length) (hyl : y.length ≤ 1000000) :
    Calls Try.prog 73 #[.slice XA x.length XC, .slice YA y.length YC] w fun e w' => e = .returned (.int .i64 (RL.sharedN x y)) ∧ Ext w w' := by
  have HX := Lib.hid hx
  have HY := Lib.hid hy
  clear hx hy
  go_enter Try.func73, Try.ntmps73
  go_wp2
  go_loopw [5] (fun i wr => ∃ k : Nat, k ≤ x.length ∧ i = .int .i64 k ∧ x.take k = y.take k ∧ Ext w wr) (fun i _ => x.length - (intOf i).toNat)
  case atStart => exact ⟨0, Nat.zero_le _, rfl, by simp, Ext.refl _⟩
  case round =>
    obtain ⟨k, hka, rfl, htk, hext⟩ := hrel
    have HT := Lib.hid htk
    have HE := Lib.hid hext
    have hzz := hext.size
    clear htk
    by_cases h1 : k < x.length
    rotate_left
    · have HN := Lib.hid (sharedN_eq x y k HT.out hka (by omega) (fun a _ => absurd a h1))
      have hk' : decide ((k : Int) < (x.length : Int)) = false := by simp; omega
      go_wp2
      go_quiet (fail)
      go_wp2
      go_ret
      exact ⟨by rw [HN.out]; rfl, HE.out.drewN _⟩
    · have h2 : k < y.length := by omega
      obtain ⟨b, o, rfl, hb, c1, c2, c3⟩ := slR_at HX.out h1
      obtain ⟨b', o', rfl, hb', d1, d2, d3⟩ := slR_at HY.out h2
      have HCMP := Lib.hid (fun W => vCompare_any x[k] y[k] W)
      have HZ : Hid (RL.cmpV x[k] y[k] = 0 ↔ x[k] = y[k]) := RL.tot_cmpV.z _ _
      have HNX := Lib.hid (fun e => takeV_snoc h1 h2 HT.out e)
      have HN := Lib.hid (fun (hne : x[k] ≠ y[k]) => sharedN_eq x y k HT.out hka (by omega) (fun _ _ => hne))
      generalize x[k] = u at *
      generalize y[k] = v at *
      have c1 := (hext.cell hb).trans c1
      have c2 := (hext.cell hb).trans c2
      have c3 := (hext.cell hb).trans c3
      have d1 := (hext.cell hb').trans d1
      have d2 := (hext.cell hb').trans d2
      have d3 := (hext.cell hb').trans d3
      have HK := Lib.hid (fun (W : World) (hW : Ext wr W) => (⟨(hW.cell (show b < wr.heap.size by omega)).trans c1, (hW.cell (show b < wr.heap.size by omega)).trans c2, (hW.cell (show b < wr.heap.size by omega)).trans c3, (hW.cell (show b' < wr.heap.size by omega)).trans d1, (hW.cell (show b' < wr.heap.size by omega)).trans d2, (hW.cell (show b' < wr.heap.size by omega)).trans d3⟩ : W.cell? ⟨b, o + k * 3, none⟩ = some (.int .i64 u.kind) ∧ W.cell? ⟨b, o + k * 3 + 1, none⟩ = some (.int .i64 u.int) ∧ W.cell? ⟨b, o + k * 3 + 2, none⟩ = some (.string u.str) ∧ W.cell? ⟨b', o' + k * 3, none⟩ = some (.int .i64 v.kind) ∧ W.cell? ⟨b', o' + k * 3 + 1, none⟩ = some (.int .i64 v.int) ∧ W.cell? ⟨b', o' + k * 3 + 2, none⟩ = some (.string v.str)))
      clear hext
      obtain ⟨q, hq⟩ : ∃ q, q = RL.cmpV u v := ⟨_, rfl⟩
      rw [← hq] at HCMP HZ
      clear hq
      have g1 : (0 : Int) ≤ (k : Int) := by omega
      have g2 : (k : Int) < (x.length : Int) := by omega
      have g3 : (k : Int) < (y.length : Int) := by omega
      go_wp2
      refine wp_region_held_drew (S := (fun w' => w'.cell? ⟨b, o + k * 3, none⟩ = some (.int .i64 u.kind) ∧ w'.cell? ⟨b, o + k * 3 + 1, none⟩ = some (.int .i64 u.int) ∧ w'.cell? ⟨b, o + k * 3 + 2, none⟩ = some (.string u.str) ∧ w'.cell? ⟨b', o' + k * 3, none⟩ = some (.int .i64 v.kind) ∧ w'.cell? ⟨b', o' + k * 3 + 1, none⟩ = some (.int .i64 v.int) ∧ w'.cell? ⟨b', o' + k * 3 + 2, none⟩ = some (.string v.str))) (by kernel_rfl) ⟨c1, c2, c3, d1, d2, d3⟩ (fun hHeld => ?_)
      refine takeOp (i := 0) (v := ?_) (some 6) rfl rfl (by kernel_rfl) (by kernel_rfl) (by kernel_rfl) (fun _ _ _ h => h) (Or.inl ⟨by rfl, ?_⟩) (by assumption) ?_
      rotate_left 1
      · (intro w0 hSw; (try dsimp only at hSw); go_simp; try (with_reducible rfl))
      try simp only [Act.put]
      try simp only [List.setIfInBounds_toArray]
      try simp only [List.set_cons_succ]
      try simp only [List.set_cons_zero]
      refine takeOp (i := 1) (v := ?_) (some 7) rfl rfl (by kernel_rfl) (by kernel_rfl) (by kernel_rfl) (fun _ _ _ h => h) (Or.inl ⟨by rfl, ?_⟩) (by assumption) ?_
      rotate_left 1
      · (intro w0 hSw; (try dsimp only at hSw); go_simp; try (with_reducible rfl))
      try simp only [Act.put]
      try simp only [List.setIfInBounds_toArray]
      try simp only [List.set_cons_succ]
      try simp only [List.set_cons_zero]
      refine takeOp (i := 2) (v := ?_) (some 8) rfl rfl (by kernel_rfl) (by kernel_rfl) (by kernel_rfl) (fun _ _ _ h => h) (Or.inl ⟨by rfl, ?_⟩) (by assumption) ?_
      rotate_left 1
      · (intro w0 hSw; (try dsimp only at hSw); go_simp; try (with_reducible rfl))
      try simp only [Act.put]
      try simp only [List.setIfInBounds_toArray]
      try simp only [List.set_cons_succ]
      try simp only [List.set_cons_zero]
      refine takeOp (i := 3) (v := ?_) (some 9) rfl rfl (by kernel_rfl) (by kernel_rfl) (by kernel_rfl) (fun _ _ _ h => h) (Or.inl ⟨by rfl, ?_⟩) (by assumption) ?_
      rotate_left 1
      · (intro w0 hSw; (try dsimp only at hSw); go_simp; try (with_reducible rfl))
      try simp only [Act.put]
      try simp only [List.setIfInBounds_toArray]
      try simp only [List.set_cons_succ]
      try simp only [List.set_cons_zero]
      refine takeOp (i := 4) (v := ?_) (some 10) rfl rfl (by kernel_rfl) (by kernel_rfl) (by kernel_rfl) (fun _ _ _ h => h) (Or.inl ⟨by rfl, ?_⟩) (by assumption) ?_
      rotate_left 1
      · (intro w0 hSw; (try dsimp only at hSw); go_simp; try (with_reducible rfl))
      try simp only [Act.put]
      try simp only [List.setIfInBounds_toArray]
      try simp only [List.set_cons_succ]
      try simp only [List.set_cons_zero]
      refine takeOp (i := 5) (v := ?_) (some 11) rfl rfl (by kernel_rfl) (by kernel_rfl) (by kernel_rfl) (fun _ _ _ h => h) (Or.inl ⟨by rfl, ?_⟩) (by assumption) ?_
      rotate_left 1
      · (intro w0 hSw; (try dsimp only at hSw); go_simp; try (with_reducible rfl))
      try simp only [Act.put]
      try simp only [List.setIfInBounds_toArray]
      try simp only [List.set_cons_succ]
      try simp only [List.set_cons_zero]
      refine takeOp (i := 6) (v := ?_) (some 12) rfl rfl (by kernel_rfl) (by kernel_rfl) (by kernel_rfl) (fun _ _ _ h => h) (Or.inl ⟨by rfl, ?_⟩) (by assumption) ?_
      rotate_left 1
      · (intro w0 hSw; (try dsimp only at hSw); go_simp; try (with_reducible rfl))
      try simp only [Act.put]
      try simp only [List.setIfInBounds_toArray]
      try simp only [List.set_cons_succ]
      try simp only [List.set_cons_zero]
      refine takeOp (i := 7) (v := ?_) (some 13) rfl rfl (by kernel_rfl) (by kernel_rfl) (by kernel_rfl) (fun _ _ _ h => h) (Or.inl ⟨by rfl, ?_⟩) (by assumption) ?_
      rotate_left 1
      · (intro w0 hSw; (try dsimp only at hSw); go_simp; try (with_reducible rfl))
      try simp only [Act.put]
      try simp only [List.setIfInBounds_toArray]
      try simp only [List.set_cons_succ]
      try simp only [List.set_cons_zero]
      refine takeOp (i := 8) (v := ?_) (some 14) rfl rfl (by kernel_rfl) (by kernel_rfl) (by kernel_rfl) (fun _ _ _ h => h) (Or.inl ⟨by rfl, ?_⟩) (by assumption) ?_
      rotate_left 1
      · (intro w0 hSw; (try dsimp only at hSw); go_simp; try (with_reducible rfl))
      try simp only [Act.put]
      try simp only [List.setIfInBounds_toArray]
      try simp only [List.set_cons_succ]
      try simp only [List.set_cons_zero]
      refine takeOp (i := 9) (v := ?_) (some 15) rfl rfl (by kernel_rfl) (by kernel_rfl) (by kernel_rfl) (fun _ _ _ h => h) (Or.inl ⟨by rfl, ?_⟩) (by assumption) ?_
      rotate_left 1
      · (intro w0 hSw; (try dsimp only at hSw); go_simp; try (with_reducible rfl))
      try simp only [Act.put]
      try simp only [List.setIfInBounds_toArray]
      try simp only [List.set_cons_succ]
      try simp only [List.set_cons_zero]
      refine takeOp (i := 10) (v := ?_) (some 16) rfl rfl (by kernel_rfl) (by kernel_rfl) (by kernel_rfl) (fun _ _ _ h => h) (Or.inl ⟨by rfl, ?_⟩) (by assumption) ?_
      rotate_left 1
      · (intro w0 hSw; (try dsimp only at hSw); go_simp; try (with_reducible rfl))
      try simp only [Act.put]
      try simp only [List.setIfInBounds_toArray]
      try simp only [List.set_cons_succ]
      try simp only [List.set_cons_zero]
      refine takeOp (i := 11) (v := ?_) (some 17) rfl rfl (by kernel_rfl) (by kernel_rfl) (by kernel_rfl) (fun _ _ _ h => h) (Or.inl ⟨by rfl, ?_⟩) (by assumption) ?_
      rotate_left 1
      · (intro w0 hSw; (try dsimp only at hSw); go_simp; try (with_reducible rfl))
      try simp only [Act.put]
      try simp only [List.setIfInBounds_toArray]
      try simp only [List.set_cons_succ]
      try simp only [List.set_cons_zero]
      refine takeOp (i := 12) (v := ?_) (some 18) rfl rfl (by kernel_rfl) (by kernel_rfl) (by kernel_rfl) (fun _ _ _ h => h) (Or.inl ⟨by rfl, ?_⟩) (by assumption) ?_
      rotate_left 1
      · (intro w0 hSw; (try dsimp only at hSw); go_simp; try (with_reducible rfl))
      try simp only [Act.put]
      try simp only [List.setIfInBounds_toArray]
      try simp only [List.set_cons_succ]
      try simp only [List.set_cons_zero]
      refine wpAnyH_ready (rs := [13]) (by kernel_rfl) (by simp) ?_
      refine AllReadyH.cons rfl (fun K hK => ?_) AllReadyH.nil
      go_simp
      refine (HCMP.out _).mono ?_
      rintro e w2 ⟨rfl, hx0⟩
      have hx : Ext wr w2 := (Ext.refl wr).drew.trans hx0
      have KEEP := HK.out w2 hx
      have HE2 := Lib.hid (HE.out.trans hx)
      clear hx hx0
      go_wp2_with fail
      refine hK.out _ _ KEEP (fun hHeld => ?_)
      clear hK K
      try simp only [Act.put]
      try simp only [List.setIfInBounds_toArray]
      try simp only [List.set_cons_succ]
      try simp only [List.set_cons_zero]
      refine takeOp (i := 14) (v := ?_) (some 20) rfl rfl (by kernel_rfl) (by kernel_rfl) (by kernel_rfl) (fun _ _ _ h => h) (Or.inl ⟨by rfl, ?_⟩) (by assumption) ?_
      rotate_left 1
      · (intro w0 hSw; (try dsimp only at hSw); go_simp; try (with_reducible rfl))
      try simp only [Act.put]
      try simp only [List.setIfInBounds_toArray]
      try simp only [List.set_cons_succ]
      try simp only [List.set_cons_zero]
      refine takeOp (i := 15) (v := ?_) (some 21) rfl rfl (by kernel_rfl) (by kernel_rfl) (by kernel_rfl) (fun _ _ _ h => h) (Or.inl ⟨by rfl, ?_⟩) (by assumption) ?_
      rotate_left 1
      · (intro w0 hSw; (try dsimp only at hSw); go_simp; try (with_reducible rfl))
      try simp only [Act.put]
      try simp only [List.setIfInBounds_toArray]
      try simp only [List.set_cons_succ]
      try simp only [List.set_cons_zero]
      refine wpAnyH_done (by kernel_rfl) ?_ _
      clear KEEP c1 c2 c3 d1 d2 d3
      by_cases hq0 : q = 0
      · have HN2 := Lib.hid (HNX.out (HZ.out.1 hq0))
        subst hq0
        clear HNX HN HZ
        go_wp2
        go_roundw
        case rel => exact ⟨k + 1, by omega, by go_num, HN2.out, HE2.out⟩
        case measure => simp [intOf]; omega
      · have HN2 := Lib.hid (HN.out (fun e => hq0 (HZ.out.2 e)))
        have hqb : (q == 0) = false := by simpa using hq0
        clear HNX HN HZ hq0
        go_wp2
        go_ret
        exact ⟨by rw [HN2.out]; rfl, HE2.out⟩

end Go.Proofs.Ytiomelogggilgaa
end

section
/- A trie that is being built: its levels in memory; append of a value or of a number at a step of a drawn region. -/
namespace Go.Proofs.Ytiomelogggilgaa
open Go.RowKit Go.Sort

theorem intInfo : (Try.prog.info? 3).map (fun i => (i.zero, i.size, i.bytes)) = some (some (.int .i64 0), 1, 8) := by kernel_rfl

/-- append of one value, laid in a block of its own, to a row of the call's own, at a step of a region that draws its order. -/
theorem stepV {w : World} {ops : Array Oper} {o : Oper} {a : Act} {K : Act → World → Prop} {Q : Exit → Act → World → Prop} {E : Prop} (hgd : o.guard = none) (s x : Operand)
    (ho : o.op = .call { callee := .builtin .append, args := #[s, x], argTypes := #[33, 33] })
    (base : Nat) (v : Value) (l : RL.R) (hs : a.eval s = v) (hown : w.ownsRow base 41 3 v l.length (rcells l))
    (gt : Nat) (z : RL.V) (hx : a.eval x = .slice (some ⟨gt, 0, none⟩) 1 1) (hg : Row w gt 41 (vcells z))
    (hn : l.length ≤ 1000000) (hbase : base ≤ w.heap.size)
    (h : ∀ g cap w', w'.ownsRow base 41 3 (.slice (some ⟨g, 0, none⟩) (l.length + 1) cap) (l.length + 1) (rcells (l ++ [z])) → w.grownBy w' v.ownBlock → (v.ownBlock = some g ∨ g = w.heap.size) → K (a.put o.dst (.slice (some ⟨g, 0, none⟩) (l.length + 1) cap)) w') :
    if Region.wanted o (yielded ops a.tmps) = true then Oper.wp Try.prog o a w K Q else E := by
  obtain ⟨i0, hi0, hz0, hz1, hz2⟩ := info_parts valInfo
  refine step_append_lies w hgd s x 33 ho base 41 i0 _ 3 32 Try.underlying33 hi0 hz0 hz1 hz2 rfl (by decide) v l.length (rcells l) hs hown ⟨gt, 0, none⟩ 1 1 (vcells z) hx rfl ?_ ?_ (by decide) (by simp only [maxLen]; omega) (by omega) hbase w.heap.size rfl ?_
  · intro j u hu
    have := hg.cell j
    rw [hu] at this
    rw [Addr.add_lit, Nat.zero_add]
    exact this
  · intro u hu; simp [vcells] at hu; rcases hu with rfl | rfl | rfl <;> rfl
  · intro g cap w' k1 k2 k3 _
    refine h g cap w' ?_ k2 k3
    rw [rcells_append]
    have : rcells [z] = vcells z := by simp [rcells]
    rw [this]
    exact k1
/-- append of one number. -/
theorem stepI {w : World} {ops : Array Oper} {o : Oper} {a : Act} {K : Act → World → Prop} {Q : Exit → Act → World → Prop} {E : Prop} (hgd : o.guard = none) (s x : Operand)
    (ho : o.op = .call { callee := .builtin .append, args := #[s, x], argTypes := #[25, 25] })
    (base : Nat) (v : Value) (l : List Nat) (hs : a.eval s = v) (hown : w.ownsRow base 3 1 v l.length (l.map fun z : Nat => Value.int .i64 (z : Int)))
    (gt : Nat) (z : Nat) (hx : a.eval x = .slice (some ⟨gt, 0, none⟩) 1 1) (hg : Row w gt 3 [.int .i64 (z : Int)])
    (hn : l.length ≤ 1000000) (hbase : base ≤ w.heap.size)
    (h : ∀ g cap w', w'.ownsRow base 3 1 (.slice (some ⟨g, 0, none⟩) (l.length + 1) cap) (l.length + 1) ((l ++ [z]).map fun z : Nat => Value.int .i64 (z : Int)) → w.grownBy w' v.ownBlock → (v.ownBlock = some g ∨ g = w.heap.size) → K (a.put o.dst (.slice (some ⟨g, 0, none⟩) (l.length + 1) cap)) w') :
    if Region.wanted o (yielded ops a.tmps) = true then Oper.wp Try.prog o a w K Q else E := by
  obtain ⟨i0, hi0, hz0, hz1, hz2⟩ := info_parts intInfo
  refine step_append_lies w hgd s x 25 ho base 3 i0 _ 1 8 Try.underlying25 hi0 hz0 hz1 hz2 rfl (by decide) v l.length _ hs hown ⟨gt, 0, none⟩ 1 1 [.int .i64 (z : Int)] hx rfl ?_ ?_ (by decide) (by simp only [maxLen]; omega) (by omega) hbase w.heap.size rfl ?_
  · intro j u hu
    have := hg.cell j
    rw [hu] at this
    rw [Addr.add_lit, Nat.zero_add]
    exact this
  · intro u hu; simp at hu; subst hu; rfl
  · intro g cap w' k1 k2 k3 _
    refine h g cap w' ?_ k2 k3
    rw [List.map_append]
    exact k1

/-- A block lb of n slices of the call's own, each in a block of its own from B on that Q allows; sp tells what each holds. -/
def OwnAll (B : Nat) (Q : Nat → Prop) (w : World) (lb : Nat) (T : TypeId) (n : Nat) (sp : Nat → TypeId × Nat × Nat × List Value) : Prop :=
  ∃ hs : List Value, Row w lb T hs ∧ hs.length = n ∧ lb < B ∧ B ≤ w.heap.size ∧
    (∀ (i : Nat) (u : Value), hs[i]? = some u → w.ownsRow B (sp i).1 (sp i).2.1 u (sp i).2.2.1 (sp i).2.2.2) ∧
    (∀ (i j : Nat) (u u' : Value) (k : Nat), hs[i]? = some u → hs[j]? = some u' → i ≠ j → u.ownBlock = some k → u'.ownBlock ≠ some k) ∧ (∀ (i : Nat) (u : Value) (k : Nat), hs[i]? = some u → u.ownBlock = some k → Q k)

section
variable {B : Nat} {Q : Nat → Prop} {w w' : World} {lb n : Nat} {T : TypeId} {sp : Nat → TypeId × Nat × Nat × List Value}
theorem OwnAll.up (h : OwnAll B Q w lb T n sp) (hb : Below w.heap.size w w') : OwnAll B Q w' lb T n sp := by
  obtain ⟨hs, h1, h2, h3, h3', h4, h5, h6⟩ := h
  exact ⟨hs, h1.up hb, h2, h3, Nat.le_trans h3' hb.size, fun i u hu => own_keep (h4 i u hu) hb, h5, h6⟩
theorem OwnAll.weak {Q' : Nat → Prop} (h : OwnAll B Q w lb T n sp) (hQ : ∀ k, k < w.heap.size → Q k → Q' k) : OwnAll B Q' w lb T n sp := by
  obtain ⟨hs, h1, h2, h3, h3', h4, h5, h6⟩ := h
  exact ⟨hs, h1, h2, h3, h3', h4, h5, fun i u k hu hk => hQ k (own_lt (h4 i u hu) k hk) (h6 i u k hu hk)⟩
theorem OwnAll.lt (h : OwnAll B Q w lb T n sp) : lb < w.heap.size := by obtain ⟨hs, h1, _⟩ := h; exact h1.lt
/-- The slice at a place. -/
theorem OwnAll.at_ (h : OwnAll B Q w lb T n sp) {i : Nat} (hi : i < n) : ∃ u, w.cell? ⟨lb, i, none⟩ = some u ∧ w.ownsRow B (sp i).1 (sp i).2.1 u (sp i).2.2.1 (sp i).2.2.2 ∧ (∀ k, u.ownBlock = some k → Q k) ∧ w.frozen? ⟨lb, i, none⟩ = false := by
  obtain ⟨hs, h1, h2, h3, h3', h4, h5, h6⟩ := h
  have hi' : i < hs.length := by omega
  exact ⟨hs[i], by rw [h1.cell, List.getElem?_eq_getElem hi'], h4 i _ (List.getElem?_eq_getElem hi'), fun k hk => h6 i _ k (List.getElem?_eq_getElem hi') hk, h1.frozen i⟩
/-- One slice was appended to, and its new header is stored. -/
theorem OwnAll.put (h : OwnAll B Q w lb T n sp) {i : Nat} {v : Value} (hv : w.cell? ⟨lb, i, none⟩ = some v) {sp' : Nat → TypeId × Nat × Nat × List Value} (hsp : ∀ j, j ≠ i → sp' j = sp j) {u : Value} {w2 : World}
    (hown : w2.ownsRow B (sp' i).1 (sp' i).2.1 u (sp' i).2.2.1 (sp' i).2.2.2) (hg : w.grownBy w2 v.ownBlock) (hat : ∀ k, u.ownBlock = some k → v.ownBlock = some k ∨ w.heap.size ≤ k) (hQ : ∀ k, u.ownBlock = some k → Q k) : OwnAll B Q (w2.setCell ⟨lb, i, none⟩ u) lb T n sp' := by
  obtain ⟨hs, h1, h2, h3, h3', h4, h5, h6⟩ := h
  rw [h1.cell] at hv
  have hi : i < hs.length := (List.getElem?_eq_some_iff.1 hv).1
  have hvB : ∀ k, v.ownBlock = some k → B ≤ k := fun k hk => own_base (h4 i v hv) hk
  have hlb : some lb ≠ v.ownBlock := fun e => by have := hvB lb e.symm; omega
  have hr2 := h1.grown hg hlb
  refine ⟨hs.set i u, hr2.set i u, by simpa using h2, h3, ?_, fun j u' hu' => ?_, fun a b ua ub k ha hb hne hk => ?_, fun j u' k hu' hk => ?_⟩
  · have := hg.size; simpa using Nat.le_trans h3' this
  · by_cases e : j = i
    · subst e
      rw [List.getElem?_set_self hi] at hu'
      injection hu' with hu'
      subst hu'
      exact own_far hown (p := ⟨lb, j, none⟩) (fun e => by have := own_base hown e; simp only at this; omega) _
    · rw [List.getElem?_set_ne (fun e' => e e'.symm)] at hu'
      rw [hsp j e]
      have ho := h4 j u' hu'
      refine own_far (own_grown ho hg (fun k hk e' => ?_)) (p := ⟨lb, i, none⟩) (fun e' => by have := own_base ho e'; simp only at this; omega) _
      exact h5 j i u' v k hu' hv e hk e'.symm
  · have key : ∀ (a b : Nat) (ub : Value), a = i → b ≠ i → (hs.set i u)[b]? = some ub → u.ownBlock = some k → ub.ownBlock ≠ some k := fun a b ub ha hb hub hk e => by
      rw [List.getElem?_set_ne (fun e' => hb e'.symm)] at hub
      rcases hat k hk with h | h
      · exact h5 b i ub v k hub hv hb e h
      · have := own_lt (h4 b ub hub) k e
        omega
    by_cases e1 : a = i
    · subst e1
      rw [List.getElem?_set_self hi] at ha
      injection ha with ha
      subst ha
      exact key a b ub rfl (fun e => hne e.symm) hb hk
    · by_cases e2 : b = i
      · subst e2
        rw [List.getElem?_set_self hi] at hb
        injection hb with hb
        subst hb
        intro e
        exact key b a ua rfl e1 ha e hk
      · rw [List.getElem?_set_ne (fun e' => e1 e'.symm)] at ha
        rw [List.getElem?_set_ne (fun e' => e2 e'.symm)] at hb
        exact h5 a b ua ub k ha hb hne hk
  · by_cases e : j = i
    · subst e
      rw [List.getElem?_set_self hi] at hu'
      injection hu' with hu'
      subst hu'
      exact hQ k hk
    · rw [List.getElem?_set_ne (fun e' => e e'.symm)] at hu'
      exact h6 j u' k hu' hk
end

/-- What the slices of a trie's levels hold: values and numbers in turn. -/
def spF (vs : Nat → RL.R) (fs : Nat → List Nat) (i : Nat) : TypeId × Nat × Nat × List Value :=
  if i % 2 = 0 then (41, 3, (vs (i / 2)).length, rcells (vs (i / 2))) else (3, 1, (fs (i / 2)).length, (fs (i / 2)).map fun z : Nat => Value.int .i64 (z : Int))
theorem spF_v (vs : Nat → RL.R) (fs : Nat → List Nat) (l : Nat) : spF vs fs (l * 2) = (41, 3, (vs l).length, rcells (vs l)) := by
  unfold spF
  rw [if_pos (by omega), show l * 2 / 2 = l by omega]
theorem spF_f (vs : Nat → RL.R) (fs : Nat → List Nat) (l : Nat) : spF vs fs (l * 2 + 1) = (3, 1, (fs l).length, (fs l).map fun z : Nat => Value.int .i64 (z : Int)) := by
  unfold spF
  rw [if_neg (by omega), show (l * 2 + 1) / 2 = l by omega]
/-- A function turned at one place. -/
def upd {α : Type} (f : Nat → α) (l : Nat) (a : α) (j : Nat) : α := if j = l then a else f j
theorem upd_self {α : Type} (f : Nat → α) (l : Nat) (a : α) : upd f l a l = a := if_pos rfl
theorem spF_updv (vs : Nat → RL.R) (fs : Nat → List Nat) (l : Nat) (a : RL.R) : ∀ j, j ≠ l * 2 → spF (upd vs l a) fs j = spF vs fs j := fun j hj => by
  unfold spF
  split
  · unfold upd; rw [if_neg (by omega)]
  · rfl
theorem spF_updf (vs : Nat → RL.R) (fs : Nat → List Nat) (l : Nat) (a : List Nat) : ∀ j, j ≠ l * 2 + 1 → spF vs (upd fs l a) j = spF vs fs j := fun j hj => by
  unfold spF
  split
  · rfl
  · unfold upd; rw [if_neg (by omega)]

/-- The levels of a trie that is being built. -/
abbrev BldM (B : Nat) (Q : Nat → Prop) (w : World) (lb d : Nat) (vs : Nat → RL.R) (fs : Nat → List Nat) : Prop := OwnAll B Q w lb 130 (d * 2) (spF vs fs)
/-- What a trie under way reads as. -/
theorem BldM.tr {B : Nat} {Q : Nat → Prop} {w : World} {lb d : Nat} {vs : Nat → RL.R} {fs : Nat → List Nat} (h : BldM B Q w lb d vs fs) : TrM w.heap.size w (some ⟨lb, 0, none⟩) d vs fs := fun l hl => by
  have hlt := OwnAll.lt h
  obtain ⟨v, g1, g3, -, -⟩ := OwnAll.at_ h (show l * 2 < d * 2 by omega)
  obtain ⟨f, g2, g4, -, -⟩ := OwnAll.at_ h (show l * 2 + 1 < d * 2 by omega)
  rw [spF_v] at g3
  rw [spF_f] at g4
  obtain ⟨-, VA, VC, rfl, q1, q2, q3, -⟩ := SlR.of_own g3
  obtain ⟨FA, FC, e1, e2, e3, e4⟩ := Sl.of_own g4
  rw [List.length_map] at e1
  subst e1
  refine ⟨lb, 0, VA, VC, FA, FC, rfl, hlt, ?_, ?_, q1, q2, q3, e4⟩
  · rw [Nat.zero_add]; exact g1
  · rw [Nat.zero_add]; exact g2
theorem BldM.trK {lo B : Nat} {Q : Nat → Prop} {w : World} {lb d : Nat} {vs : Nat → RL.R} {fs : Nat → List Nat} (h : BldM B Q w lb d vs fs) (h1 : lo ≤ lb) (h2 : lo ≤ B) : TrK lo w (some ⟨lb, 0, none⟩) d vs fs := fun w'' hk l hl => by
  have hlt := OwnAll.lt h
  obtain ⟨v, g1, g3, -, -⟩ := OwnAll.at_ h (show l * 2 < d * 2 by omega)
  obtain ⟨f, g2, g4, -, -⟩ := OwnAll.at_ h (show l * 2 + 1 < d * 2 by omega)
  rw [spF_v] at g3
  rw [spF_f] at g4
  have b1 : ∀ k, v.ownBlock = some k → lo ≤ k := fun k hk => Nat.le_trans h2 (own_base g3 hk)
  have b2 : ∀ k, f.ownBlock = some k → lo ≤ k := fun k hk => Nat.le_trans h2 (own_base g4 hk)
  obtain ⟨-, VA, VC, rfl, q1, q2, q3, -⟩ := SlR.of_own g3
  obtain ⟨FA, FC, e1, e2, e3, e4⟩ := Sl.of_own g4
  rw [List.length_map] at e1
  subst e1
  refine ⟨lb, 0, VA, VC, FA, FC, rfl, hlt, ?_, ?_, q1, q2, Sl.keepLo q3 (fun ad e => b1 ad.block (by rw [e]; rfl)) hk, Sl.keepLo e4 (fun ad e => b2 ad.block (by rw [e]; rfl)) hk⟩
  · rw [Nat.zero_add]; exact (hk ⟨lb, l * 2, none⟩ h1 hlt).trans g1
  · rw [Nat.zero_add]; exact (hk ⟨lb, l * 2 + 1, none⟩ h1 hlt).trans g2

end Go.Proofs.Ytiomelogggilgaa
end

section
/- Drawn regions that end in one operation that waits for all others (a store): what the loads need is asked behind every operation but that last one. -/
namespace Go.Proofs.Ytiomelogggilgaa
open Go.RowKit Go.Sort

section
variable {P : Program} {ops : Array Oper} {Q : Exit → Act → World → Prop} {md : Region.Mode} {S : World → Prop} {z : Nat}

/-- Whatever order is picked from here on; S holds behind every operation but number z. -/
def wpAnyZ (P : Program) (md : Region.Mode) (ops : Array Oper) (Q : Exit → Act → World → Prop) (S : World → Prop) (z : Nat) : Nat → Array Bool → Act → World → Prop
  | 0, listed, a, w => Region.ready md ops listed = [] ∧ Q .normal a w
  | fuel + 1, listed, a, w =>
    (Region.ready md ops listed = [] → Q .normal a w) ∧
    ∀ i ∈ Region.ready md ops listed, wpOp P ops Q i (fun a' w' => (i ≠ z → S w') ∧ wpAnyZ P md ops Q S z fuel (listed.setIfInBounds i true) a' w') a w

theorem wpAny_of_Z : ∀ (fuel : Nat) (listed : Array Bool) (a : Act) (w : World), wpAnyZ P md ops Q S z fuel listed a w → wpAny P md ops Q fuel listed a w
  | 0, _, _, _, h => h
  | fuel + 1, _, _, _, h => ⟨h.1, fun i hi => wpOp_mono (fun a' w' h' => wpAny_of_Z fuel _ a' w' h'.2) (h.2 i hi)⟩

/-- Those that an operation waits for. -/
def preds (md : Region.Mode) (ops : Array Oper) (k : Nat) : List Nat :=
  match ops[k]? with
  | some o => (o.after.toList.filter (Region.binds md)).map (·.on)
  | none => []
/-- Those that it waits for through others. -/
def reach (md : Region.Mode) (ops : Array Oper) (z : Nat) : Nat → List Nat
  | 0 => preds md ops z
  | n + 1 => reach md ops z n ++ (reach md ops z n).flatMap (preds md ops)
/-- Number z waits for all others. -/
def lastB (md : Region.Mode) (ops : Array Oper) (z : Nat) : Bool := (List.range ops.size).all fun i => i == z || (reach md ops z 1).contains i
/-- What has come up had all that it waits for before it. -/
def Cl (md : Region.Mode) (ops : Array Oper) (listed : Array Bool) : Prop := ∀ k, listed.getD k false = true → ∀ j ∈ preds md ops k, listed.getD j false = true
def clB (md : Region.Mode) (ops : Array Oper) (listed : Array Bool) : Bool := (List.range listed.size).all fun k => !(listed.getD k false) || (preds md ops k).all fun j => listed.getD j false
theorem Cl.of {listed : Array Bool} (h : clB md ops listed = true) : Cl md ops listed := fun k hk j hj => by
  unfold clB at h
  simp only [List.all_eq_true, List.mem_range] at h
  have hsz : k < listed.size := by
    rcases Nat.lt_or_ge k listed.size with h' | h'
    · exact h'
    · simp [Array.getElem?_eq_none h'] at hk
  have h1 := h k hsz
  rw [hk] at h1
  simp only [Bool.not_true, Bool.false_or, List.all_eq_true] at h1
  exact h1 j hj
theorem ready_preds {listed : Array Bool} {j : Nat} (hr : j ∈ Region.ready md ops listed) : ∀ i ∈ preds md ops j, listed.getD i false = true := fun i hi => by
  obtain ⟨_, o, ho, hall⟩ := mem_ready.1 hr
  unfold preds at hi
  rw [ho] at hi
  simp only [List.mem_map, List.mem_filter, Array.mem_toList_iff] at hi
  obtain ⟨e, ⟨he, hb⟩, rfl⟩ := hi
  exact hall e he hb
theorem Cl.step {listed : Array Bool} {j : Nat} (h : Cl md ops listed) (hr : j ∈ Region.ready md ops listed) : Cl md ops (listed.setIfInBounds j true) := fun k hk i hi => by
  by_cases e : j = k
  · subst e; exact getD_set_true (ready_preds hr i hi)
  · rw [getD_set_ne false e] at hk
    exact getD_set_true (h k hk i hi)
theorem reach_listed {listed : Array Bool} (hc : Cl md ops listed) (hr : z ∈ Region.ready md ops listed) : ∀ n, ∀ i ∈ reach md ops z n, listed.getD i false = true
  | 0, i, hi => ready_preds hr i hi
  | n + 1, i, hi => by
    unfold reach at hi
    rw [List.mem_append, List.mem_flatMap] at hi
    rcases hi with hi | ⟨k, hk, hi⟩
    · exact reach_listed hc hr n i hi
    · exact hc k (reach_listed hc hr n k hk) i hi
theorem last_alone (hz : lastB md ops z = true) {listed : Array Bool} (hc : Cl md ops listed) {i : Nat} (hr : z ∈ Region.ready md ops listed) (hi : i ∈ Region.ready md ops listed) : i = z := by
  obtain ⟨hun, oi, hoi, _⟩ := mem_ready.1 hi
  unfold lastB at hz
  simp only [List.all_eq_true, List.mem_range] at hz
  have hsz : i < ops.size := by
    rcases Nat.lt_or_ge i ops.size with h | h
    · exact h
    · rw [Array.getElem?_eq_none h] at hoi; cases hoi
  have h1 := hz i hsz
  rw [Bool.or_eq_true] at h1
  rcases h1 with h1 | h1
  · simpa using h1
  · have h3 := reach_listed hc hr 1 i (by simpa using h1)
    rcases Nat.lt_or_ge i listed.size with h | h
    · simp [h] at hun h3
      rw [hun] at h3
      cases h3
    · simp [Array.getElem?_eq_none h] at h3

/-- An operation that may come up and yields its value in every world that meets S may be taken first. -/
theorem wpAnyZ_first (hz : lastB md ops z = true) {i : Nat} {oi : Oper} {v : Value} (hiz : i ≠ z) (hi : ops[i]? = some oi) (hsel : ∀ (j : Nat) (o : Oper) cs b, ops[j]? = some o → o.op ≠ .select cs b)
    (hQ : ∀ c a w, Q (.panic c) (a.put oi.dst v) w → Q (.panic c) a w) :
    ∀ (fuel : Nat) (listed : Array Bool) (a : Act) (w : World), Cl md ops listed →
      (∀ j oj, ops[j]? = some oj → j ≠ i → listed.getD j true = false → (∀ e ∈ oj.after, Region.binds md e = true → e.on ≠ i) → oi.apart ops oj = true) →
      i ∈ Region.ready md ops listed → YieldsIf P ops S oi v a → S w →
      wpAnyZ P md ops Q S z fuel (listed.setIfInBounds i true) (a.put oi.dst v) w → wpAnyZ P md ops Q S z (fuel + 1) listed a w
  | 0, listed, a, w, _, _, hr, hy, hS, H => by
    refine ⟨fun h => (by rw [h] at hr; cases hr), fun j hj => ?_⟩
    by_cases hji : j = i
    · subst hji; exact hy.wpOp hi hS ⟨fun _ => hS, H⟩
    · have := ready_mono hj hji
      rw [H.1] at this
      cases this
  | fuel + 1, listed, a, w, hc, hfree, hr, hy, hS, H => by
    refine ⟨fun h => (by rw [h] at hr; cases hr), fun j hj => ?_⟩
    by_cases hji : j = i
    · subst hji; exact hy.wpOp hi hS ⟨fun _ => hS, H⟩
    · have hjz : j ≠ z := fun e => by subst e; exact hiz (last_alone hz hc hj hr)
      have h1 := H.2 j (ready_mono hj hji)
      obtain ⟨hjun, oj, hoj, hall⟩ := mem_ready.1 hj
      have hnot : ∀ e ∈ oj.after, Region.binds md e = true → e.on ≠ i := fun e he hb heq => by
        have h2 := hall e he hb
        have h0 := (mem_ready.1 hr).1
        rw [heq] at h2
        rcases Nat.lt_or_ge i listed.size with h' | h'
        · simp [h'] at h0 h2; rw [h0] at h2; cases h2
        · simp [Array.getElem?_eq_none h'] at h2
      have h2 := wpOp_putIf hoj (hfree j oj hoj hji hjun hnot) (fun cs b => hsel i oi cs b hi) (fun cs b => hsel j oj cs b hoj) hQ hy h1
      refine wpOp_mono (fun a' w' h3 => ⟨h3.2.1, wpAnyZ_first hz hiz hi hsel hQ fuel (listed.setIfInBounds j true) a' w' (hc.step hj) (fun k ok hk hki hun hno => ?_) (ready_mono hr (Ne.symm hji)) h3.1 (h3.2.1 hjz) ?_⟩) h2
      · refine hfree k ok hk hki ?_ hno
        by_cases hjk : j = k
        · subst hjk; exact hjun
        · rw [getD_set_ne true hjk] at hun; exact hun
      · rw [Array.setIfInBounds_comm _ _ hji]
        exact h3.2.2

/-- Take number i first. -/
theorem takeZ {i : Nat} {oi : Oper} {v : Value} {fuel : Nat} {listed : Array Bool} {a : Act} {w : World} (d : Option Tmp) (hi : ops[i]? = some oi) (hd : oi.dst = d)
    (hz : lastB md ops z = true) (hiz : i ≠ z) (hcl : clB md ops listed = true) (hs : Region.noSelect ops = true) (hf : Region.free md ops listed i = true) (hr : (Region.ready md ops listed).contains i = true)
    (hQ : ∀ c a w, Q (.panic c) (a.put d v) w → Q (.panic c) a w) (hy : YieldsIf P ops S oi v a) (hS : S w)
    (h : wpAnyZ P md ops Q S z fuel (listed.setIfInBounds i true) (a.put d v) w) : wpAnyZ P md ops Q S z (fuel + 1) listed a w := by
  subst hd
  exact wpAnyZ_first hz hiz hi (Region.noSelect_spec hs) hQ fuel listed a w (Cl.of hcl) (Region.free_spec hi hf) (by simpa using hr) hy hS h
/-- Number i alone may come up. -/
theorem oneZ {i : Nat} {o : Oper} {fuel : Nat} {listed : Array Bool} {a : Act} {w : World} (hr : Region.ready md ops listed = [i]) (ho : ops[i]? = some o) (hiz : i ≠ z)
    (h : ∀ K' : Act → World → Prop, Shut (∀ a w, S w → (S w → wpAnyZ P md ops Q S z fuel (listed.setIfInBounds i true) a w) → K' a w) → if Region.wanted o (yielded ops a.tmps) = true then Oper.wp P o a w K' Q else K' (a.put o.dst undef) w) :
    wpAnyZ P md ops Q S z (fuel + 1) listed a w := by
  refine ⟨(fun h0 => by rw [hr] at h0; cases h0), fun j hj => ?_⟩
  rw [hr] at hj
  obtain rfl : j = i := by simpa using hj
  exact wpOp_step ho (fun K' hK => h K' (fun a w hS hW => hK a w ⟨fun _ => hS, hW hS⟩))
/-- The last one: nothing is asked behind it but what follows the region. -/
theorem lastZ {o : Oper} {fuel : Nat} {listed : Array Bool} {a : Act} {w : World} (hr : Region.ready md ops listed = [z]) (ho : ops[z]? = some o) (hd : Region.ready md ops (listed.setIfInBounds z true) = [])
    (h : ∀ K' : Act → World → Prop, Shut (∀ a w, Q .normal a w → K' a w) → if Region.wanted o (yielded ops a.tmps) = true then Oper.wp P o a w K' Q else K' (a.put o.dst undef) w) :
    wpAnyZ P md ops Q S z (fuel + 1) listed a w := by
  refine ⟨(fun h0 => by rw [hr] at h0; cases h0), fun j hj => ?_⟩
  rw [hr] at hj
  obtain rfl : j = z := by simpa using hj
  refine wpOp_step ho (fun K' hK => h K' (fun a w hQ => hK a w ⟨fun h => absurd rfl h, ?_⟩))
  cases fuel with
  | zero => exact ⟨hd, hQ⟩
  | succ fuel => exact ⟨fun _ => hQ, by rw [hd]; simp⟩
/-- The beginning. -/
theorem regionZ {id : Nat} {a : Act} {w : World} (z : Nat) (hm : P.follows .mixedOrders = true) (hS : S w.drew)
    (h : S w.drew → wpAnyZ P .any ops Q S z ops.size (Array.replicate ops.size false) a w.drew) : (Code.region id ops true).wp P Q a w :=
  wp_region_any hm (wpAny_of_Z _ _ _ _ (h hS))
end

end Go.Proofs.Ytiomelogggilgaa
end

section
/- Walk: trie.add. -/
namespace Go.Proofs.Ytiomelogggilgaa
open Go.RowKit Go.Sort

/-- Below block B nothing turns but block lb. -/
def KeepX (B lb : Nat) (w w' : World) : Prop := w'.os = w.os ∧ w'.tape = w.tape ∧ w'.output = w.output ∧ w.heap.size ≤ w'.heap.size ∧ ∀ b, b < B → b ≠ lb → w'.heap[b]? = w.heap[b]?
theorem KeepX.refl (B lb : Nat) (w : World) : KeepX B lb w w := ⟨rfl, rfl, rfl, Nat.le_refl _, fun _ _ _ => rfl⟩
theorem KeepX.trans {B lb : Nat} {a b c : World} (h : KeepX B lb a b) (k : KeepX B lb b c) : KeepX B lb a c :=
  ⟨k.1.trans h.1, k.2.1.trans h.2.1, k.2.2.1.trans h.2.2.1, Nat.le_trans h.2.2.2.1 k.2.2.2.1, fun x hx hn => (k.2.2.2.2 x hx hn).trans (h.2.2.2.2 x hx hn)⟩
theorem KeepX.below {B lb C : Nat} {a b : World} (h : Below C a b) (hB : B ≤ C) : KeepX B lb a b := ⟨h.os, h.tape, h.output, h.size, fun x hx _ => h.block x (by omega)⟩
theorem KeepX.grown {B lb : Nat} {a b : World} {row : Option Nat} (h : a.grownBy b row) (hB : B ≤ a.heap.size) (hr : ∀ k, row = some k → B ≤ k) : KeepX B lb a b := ⟨h.os, h.tape, h.output, h.size, fun x hx _ => h.block x (by omega) (fun e => by have := hr x e.symm; omega)⟩
theorem KeepX.set {B lb : Nat} (w : World) (o : Nat) (u : Value) : KeepX B lb w (w.setCell ⟨lb, o, none⟩ u) := ⟨rfl, rfl, rfl, by simp, fun x _ hn => Below.heap_setCell w ⟨lb, o, none⟩ u x hn⟩
theorem KeepX.cell {B lb : Nat} {w w' : World} (h : KeepX B lb w w') {p : Addr} (hp : p.block < B) (hn : p.block ≠ lb) : w'.cell? p = w.cell? p := World.cell?_of_block (h.2.2.2.2 p.block hp hn)

/-- What the levels hold when a row has been added up to level k. -/
def addV (vs : Nat → RL.R) (x : RL.R) (frm k : Nat) (j : Nat) : RL.R := if frm ≤ j ∧ j < k then vs j ++ [x.getD j default] else vs j
def addF (d : Nat) (vs : Nat → RL.R) (fs : Nat → List Nat) (frm k : Nat) (j : Nat) : List Nat := if frm ≤ j ∧ j < k then fs j ++ [sizeF d vs (j + 1)] else fs j
theorem addV_step (vs : Nat → RL.R) (x : RL.R) {frm k : Nat} (h : frm ≤ k) : addV vs x frm (k + 1) = upd (addV vs x frm k) k (vs k ++ [x.getD k default]) := by
  funext j
  unfold addV upd
  by_cases e : j = k
  · subst e; rw [if_pos ⟨h, by omega⟩, if_pos rfl]
  · rw [if_neg e]
    dsimp only
    by_cases h2 : frm ≤ j ∧ j < k
    · rw [if_pos h2, if_pos ⟨h2.1, by omega⟩]
    · rw [if_neg h2, if_neg (by omega)]
theorem addF_step (d : Nat) (vs : Nat → RL.R) (fs : Nat → List Nat) {frm k : Nat} (h : frm ≤ k) : addF d vs fs frm (k + 1) = upd (addF d vs fs frm k) k (fs k ++ [sizeF d vs (k + 1)]) := by
  funext j
  unfold addF upd
  by_cases e : j = k
  · subst e; rw [if_pos ⟨h, by omega⟩, if_pos rfl]
  · rw [if_neg e]
    dsimp only
    by_cases h2 : frm ≤ j ∧ j < k
    · rw [if_pos h2, if_pos ⟨h2.1, by omega⟩]
    · rw [if_neg h2, if_neg (by omega)]
theorem addV_at (vs : Nat → RL.R) (x : RL.R) (frm k : Nat) : addV vs x frm k k = vs k := by unfold addV; rw [if_neg (by omega)]
theorem addF_at (d : Nat) (vs : Nat → RL.R) (fs : Nat → List Nat) (frm k : Nat) : addF d vs fs frm k k = fs k := by unfold addF; rw [if_neg (by omega)]

set_option maxHeartbeats 8000000 in
set_option maxRecDepth 100000 in
theorem trAdd_any (B lb d dc : Nat) (vs : Nat → RL.R) (fs : Nat → List Nat) (XA : Option Addr) (XC frm : Nat) (x : RL.R) (w : World) (h : BldM B (fun _ => True) w lb d vs fs) (hx : HR (fun b => b ≠ lb) B w (.slice XA x.length XC) x) (hxd : x.length = d) (hf : frm ≤ d) (hd : d ≤ 32) (hv : ∀ l, (vs l).length ≤ 100000) (hfl : ∀ l, (fs l).length ≤ 100000) :
    Calls Try.prog 72 #[.agg #[.slice (some ⟨lb, 0, none⟩) d dc], .slice XA x.length XC, .int .i64 frm] w fun e w' => e = .returned (.tuple #[]) ∧ BldM B (fun _ => True) w' lb d (addV vs x frm d) (addF d vs fs frm d) ∧ KeepX B lb w w' := by
  have hBz : B ≤ w.heap.size := by obtain ⟨hs, _, _, _, h3', _⟩ := h; exact h3'
  have hlB : lb < B := by obtain ⟨hs, _, _, h3, _⟩ := h; exact h3
  obtain ⟨W0, hW0⟩ : ∃ W0, W0 = w.alloc (.cells #[.slice (some ⟨lb, 0, none⟩) d dc] 109) := ⟨_, rfl⟩
  have he0 : Ext w W0 := by rw [hW0]; exact (Ext.refl w).alloc _
  have hr0 : Row W0 w.heap.size 109 [.slice (some ⟨lb, 0, none⟩) d dc] := by rw [hW0]; exact Row.new w 109 _
  have HB0 : Hid (BldM B (fun b => b ≠ w.heap.size) W0 lb d vs fs) := (h.weak (fun k hk _ => by show k ≠ w.heap.size; omega)).up he0.below
  have HR0 := Lib.hid hr0
  have HK0 : Hid (KeepX B lb w W0) := KeepX.below he0.below hBz
  have HX := Lib.hid hx
  have HV := Lib.hid hv
  have HF := Lib.hid hfl
  have HXD := Lib.hid hxd
  have hxd1 : d ≤ x.length := by omega
  have hxd2 : x.length ≤ d := by omega
  clear h hx hv hfl he0 hr0 hxd
  go_enter Try.func72, Try.ntmps72
  go_wp2
  rw [← hW0]
  clear hW0
  go_loopw [6] (fun i wr => ∃ k : Nat, frm ≤ k ∧ k ≤ d ∧ i = .int .i64 k ∧ BldM B (fun b => b ≠ w.heap.size) wr lb d (addV vs x frm k) (addF d vs fs frm k) ∧ Row wr w.heap.size 109 [.slice (some ⟨lb, 0, none⟩) d dc] ∧ KeepX B lb w wr) (fun i _ => d - (intOf i).toNat)
  case atStart =>
    refine ⟨frm, Nat.le_refl _, hf, rfl, ?_, HR0.out, HK0.out⟩
    rw [show addV vs x frm frm = vs from by funext j; unfold addV; rw [if_neg (by omega)], show addF d vs fs frm frm = fs from by funext j; unfold addF; rw [if_neg (by omega)]]
    exact HB0.out
  case round =>
    obtain ⟨k, hk1, hk2, rfl, hbld, hrow, hkeep⟩ := hrel
    have hzz := hkeep.2.2.2.1
    have HBLD := Lib.hid hbld
    have HROW := Lib.hid hrow
    have HKEEP := Lib.hid hkeep
    clear HB0 HR0 HK0
    by_cases h1 : k < d
    rotate_left
    · obtain rfl : k = d := by omega
      rw [HXD.out]
      go_wp2
      go_end0
      exact ⟨rfl, OwnAll.weak HBLD.out (fun _ _ _ => trivial), HKEEP.out⟩
    obtain ⟨v, cv, ov, qv, fv⟩ := OwnAll.at_ hbld (show k * 2 < d * 2 by omega)
    rw [spF_v, addV_at] at ov
    have hkx : k < x.length := by omega
    obtain ⟨b, o, rfl, hb, c1, c2, c3⟩ := slR_at HX.out.sl hkx
    have hbl : b ≠ lb := by
      obtain ⟨A', C', e, -, -, -, hP⟩ := HX.out
      injection e with e1 _ _
      exact hP (by intro e; subst e; simp at hkx) _ e1.symm
    have HZ : Hid (x.getD k default = x[k]) := by show _ = _; rw [List.getD_eq_getElem?_getD, List.getElem?_eq_getElem hkx]; rfl
    generalize x[k] = z at *
    have t0 : wr.cell? ⟨w.heap.size, 0, none⟩ = some (.slice (some ⟨lb, 0, none⟩) d dc) := hrow.cell 0
    have c1 := (hkeep.cell (p := ⟨b, o + k * 3, none⟩) hb hbl).trans c1
    have c2 := (hkeep.cell (p := ⟨b, o + k * 3 + 1, none⟩) hb hbl).trans c2
    have c3 := (hkeep.cell (p := ⟨b, o + k * 3 + 2, none⟩) hb hbl).trans c3
    have hlw : lb < wr.heap.size := OwnAll.lt hbld
    have hbw : b < wr.heap.size := by omega
    have htw : w.heap.size < wr.heap.size := hrow.lt
    have HOV := Lib.hid ov
    have HQV := Lib.hid qv
    have hvk := HV.out k
    have HOB : Hid (∀ j, v.ownBlock = some j → B ≤ j) := fun j hj => own_base ov hj
    clear hbld hrow hkeep ov qv
    have g1 : (0 : Int) ≤ (k : Int) := by omega
    have g2 : (k : Int) < (d : Int) := by omega
    have g3 : (k : Int) < (x.length : Int) := by omega
    go_wp2
    refine regionZ (S := (fun w' => w'.cell? ⟨w.heap.size, 0, none⟩ = some (.slice (some ⟨lb, 0, none⟩) d dc) ∧ w'.cell? ⟨lb, k * 2, none⟩ = some v ∧ w'.cell? ⟨b, o + k * 3, none⟩ = some (.int .i64 z.kind) ∧ w'.cell? ⟨b, o + k * 3 + 1, none⟩ = some (.int .i64 z.int) ∧ w'.cell? ⟨b, o + k * 3 + 2, none⟩ = some (.string z.str))) 17 (by kernel_rfl) ⟨t0, cv, c1, c2, c3⟩ (fun hHeld => ?_)
    refine takeZ (i := 0) (v := ?_) (some 14) rfl rfl (by kernel_rfl) (by decide) (by kernel_rfl) (by kernel_rfl) (by kernel_rfl) (by kernel_rfl) (fun _ _ _ h => h) (Or.inl ⟨by rfl, ?_⟩) (by assumption) ?_
    rotate_left 1
    · (intro w0 hSw; (try dsimp only at hSw); go_simp; try (with_reducible rfl))
    try simp only [Act.put]
    try simp only [List.setIfInBounds_toArray]
    try simp only [List.set_cons_succ]
    try simp only [List.set_cons_zero]
    refine takeZ (i := 1) (v := ?_) (some 15) rfl rfl (by kernel_rfl) (by decide) (by kernel_rfl) (by kernel_rfl) (by kernel_rfl) (by kernel_rfl) (fun _ _ _ h => h) (Or.inl ⟨by rfl, ?_⟩) (by assumption) ?_
    rotate_left 1
    · (intro w0 hSw; (try dsimp only at hSw); go_simp; try (with_reducible rfl))
    try simp only [Act.put]
    try simp only [List.setIfInBounds_toArray]
    try simp only [List.set_cons_succ]
    try simp only [List.set_cons_zero]
    refine takeZ (i := 2) (v := ?_) (some 16) rfl rfl (by kernel_rfl) (by decide) (by kernel_rfl) (by kernel_rfl) (by kernel_rfl) (by kernel_rfl) (fun _ _ _ h => h) (Or.inl ⟨by rfl, ?_⟩) (by assumption) ?_
    rotate_left 1
    · (intro w0 hSw; (try dsimp only at hSw); go_simp; try (with_reducible rfl))
    try simp only [Act.put]
    try simp only [List.setIfInBounds_toArray]
    try simp only [List.set_cons_succ]
    try simp only [List.set_cons_zero]
    refine takeZ (i := 3) (v := ?_) (some 17) rfl rfl (by kernel_rfl) (by decide) (by kernel_rfl) (by kernel_rfl) (by kernel_rfl) (by kernel_rfl) (fun _ _ _ h => h) (Or.inl ⟨by rfl, ?_⟩) (by assumption) ?_
    rotate_left 1
    · (intro w0 hSw; (try dsimp only at hSw); go_simp; try (with_reducible rfl))
    try simp only [Act.put]
    try simp only [List.setIfInBounds_toArray]
    try simp only [List.set_cons_succ]
    try simp only [List.set_cons_zero]
    refine takeZ (i := 4) (v := ?_) (some 18) rfl rfl (by kernel_rfl) (by decide) (by kernel_rfl) (by kernel_rfl) (by kernel_rfl) (by kernel_rfl) (fun _ _ _ h => h) (Or.inl ⟨by rfl, ?_⟩) (by assumption) ?_
    rotate_left 1
    · (intro w0 hSw; (try dsimp only at hSw); go_simp; try (with_reducible rfl))
    try simp only [Act.put]
    try simp only [List.setIfInBounds_toArray]
    try simp only [List.set_cons_succ]
    try simp only [List.set_cons_zero]
    refine takeZ (i := 5) (v := ?_) (some 19) rfl rfl (by kernel_rfl) (by decide) (by kernel_rfl) (by kernel_rfl) (by kernel_rfl) (by kernel_rfl) (fun _ _ _ h => h) (Or.inl ⟨by rfl, ?_⟩) (by assumption) ?_
    rotate_left 1
    · (intro w0 hSw; (try dsimp only at hSw); go_simp; try (with_reducible rfl))
    try simp only [Act.put]
    try simp only [List.setIfInBounds_toArray]
    try simp only [List.set_cons_succ]
    try simp only [List.set_cons_zero]
    refine takeZ (i := 6) (v := ?_) (some 20) rfl rfl (by kernel_rfl) (by decide) (by kernel_rfl) (by kernel_rfl) (by kernel_rfl) (by kernel_rfl) (fun _ _ _ h => h) (Or.inl ⟨by rfl, ?_⟩) (by assumption) ?_
    rotate_left 1
    · (intro w0 hSw; (try dsimp only at hSw); go_simp; try (with_reducible rfl))
    try simp only [Act.put]
    try simp only [List.setIfInBounds_toArray]
    try simp only [List.set_cons_succ]
    try simp only [List.set_cons_zero]
    refine takeZ (i := 7) (v := ?_) (some 21) rfl rfl (by kernel_rfl) (by decide) (by kernel_rfl) (by kernel_rfl) (by kernel_rfl) (by kernel_rfl) (fun _ _ _ h => h) (Or.inl ⟨by rfl, ?_⟩) (by assumption) ?_
    rotate_left 1
    · (intro w0 hSw; (try dsimp only at hSw); go_simp; try (with_reducible rfl))
    try simp only [Act.put]
    try simp only [List.setIfInBounds_toArray]
    try simp only [List.set_cons_succ]
    try simp only [List.set_cons_zero]
    refine takeZ (i := 8) (v := ?_) (some 22) rfl rfl (by kernel_rfl) (by decide) (by kernel_rfl) (by kernel_rfl) (by kernel_rfl) (by kernel_rfl) (fun _ _ _ h => h) (Or.inl ⟨by rfl, ?_⟩) (by assumption) ?_
    rotate_left 1
    · (intro w0 hSw; (try dsimp only at hSw); go_simp; try (with_reducible rfl))
    try simp only [Act.put]
    try simp only [List.setIfInBounds_toArray]
    try simp only [List.set_cons_succ]
    try simp only [List.set_cons_zero]
    refine takeZ (i := 9) (v := ?_) (some 23) rfl rfl (by kernel_rfl) (by decide) (by kernel_rfl) (by kernel_rfl) (by kernel_rfl) (by kernel_rfl) (fun _ _ _ h => h) (Or.inl ⟨by rfl, ?_⟩) (by assumption) ?_
    rotate_left 1
    · (intro w0 hSw; (try dsimp only at hSw); go_simp; try (with_reducible rfl))
    try simp only [Act.put]
    try simp only [List.setIfInBounds_toArray]
    try simp only [List.set_cons_succ]
    try simp only [List.set_cons_zero]
    refine takeZ (i := 10) (v := ?_) (some 24) rfl rfl (by kernel_rfl) (by decide) (by kernel_rfl) (by kernel_rfl) (by kernel_rfl) (by kernel_rfl) (fun _ _ _ h => h) (Or.inl ⟨by rfl, ?_⟩) (by assumption) ?_
    rotate_left 1
    · (intro w0 hSw; (try dsimp only at hSw); go_simp; try (with_reducible rfl))
    try simp only [Act.put]
    try simp only [List.setIfInBounds_toArray]
    try simp only [List.set_cons_succ]
    try simp only [List.set_cons_zero]
    refine takeZ (i := 11) (v := ?_) (some 25) rfl rfl (by kernel_rfl) (by decide) (by kernel_rfl) (by kernel_rfl) (by kernel_rfl) (by kernel_rfl) (fun _ _ _ h => h) (Or.inl ⟨by rfl, ?_⟩) (by assumption) ?_
    rotate_left 1
    · (intro w0 hSw; (try dsimp only at hSw); go_simp; try (with_reducible rfl))
    try simp only [Act.put]
    try simp only [List.setIfInBounds_toArray]
    try simp only [List.set_cons_succ]
    try simp only [List.set_cons_zero]
    refine takeZ (i := 12) (v := ?_) (some 26) rfl rfl (by kernel_rfl) (by decide) (by kernel_rfl) (by kernel_rfl) (by kernel_rfl) (by kernel_rfl) (fun _ _ _ h => h) (Or.inl ⟨by rfl, ?_⟩) (by assumption) ?_
    rotate_left 1
    · (intro w0 hSw; (try dsimp only at hSw); go_simp; try (with_reducible rfl))
    try simp only [Act.put]
    try simp only [List.setIfInBounds_toArray]
    try simp only [List.set_cons_succ]
    try simp only [List.set_cons_zero]
    refine oneZ (i := 13) (by kernel_rfl) rfl (by decide) (fun K hK => ?_)
    go_simp
    have hxa : Ext wr ((wr.alloc (.cells #[.int .i64 z.kind, .int .i64 z.int, .string z.str] 41)).drew) := ((Ext.refl wr).alloc _).drew
    have KEEP := (⟨(hxa.cell htw).trans t0, (hxa.cell hlw).trans cv, (hxa.cell hbw).trans c1, (hxa.cell hbw).trans c2, (hxa.cell hbw).trans c3⟩ : _ ∧ _ ∧ _ ∧ _ ∧ _)
    clear hxa
    refine hK.out _ _ KEEP (fun hHeld => ?_)
    clear hK K
    try simp only [Act.put]
    try simp only [List.setIfInBounds_toArray]
    try simp only [List.set_cons_succ]
    try simp only [List.set_cons_zero]
    refine oneZ (i := 14) (by kernel_rfl) rfl (by decide) (fun K hK => ?_)
    refine stepV (w := (wr.alloc (.cells #[.int .i64 z.kind, .int .i64 z.int, .string z.str] 41)).drew) rfl (.tmp 22) (.tmp 27) rfl B v (vs k) (by simp [Act.eval]) (HOV.out.alloc _) wr.heap.size z (by simp [Act.eval]) (Row.new wr 41 (vcells z)) (by omega) (by simp; omega) ?_
    intro ng cap w2 hown2 hg2 hat2
    have KEEP2 : w2.cell? ⟨w.heap.size, 0, none⟩ = some (.slice (some ⟨lb, 0, none⟩) d dc) ∧ w2.cell? ⟨lb, k * 2, none⟩ = some v ∧ w2.cell? ⟨b, o + k * 3, none⟩ = some (.int .i64 z.kind) ∧ w2.cell? ⟨b, o + k * 3 + 1, none⟩ = some (.int .i64 z.int) ∧ w2.cell? ⟨b, o + k * 3 + 2, none⟩ = some (.string z.str) := by
      have hz : wr.heap.size ≤ ((wr.alloc (.cells #[.int .i64 z.kind, .int .i64 z.int, .string z.str] 41)).drew).heap.size := by simp
      refine ⟨(grown_cell hg2 (p := ⟨w.heap.size, 0, none⟩) (Nat.lt_of_lt_of_le htw hz) (fun e => HQV.out _ e.symm rfl)).trans KEEP.1, (grown_cell hg2 (p := ⟨lb, k * 2, none⟩) (Nat.lt_of_lt_of_le hlw hz) (fun e => by have := HOB.out _ e.symm; simp only at this; omega)).trans KEEP.2.1, (grown_cell hg2 (p := ⟨b, o + k * 3, none⟩) (Nat.lt_of_lt_of_le hbw hz) (fun e => by have := HOB.out _ e.symm; simp only at this; omega)).trans KEEP.2.2.1, (grown_cell hg2 (p := ⟨b, o + k * 3 + 1, none⟩) (Nat.lt_of_lt_of_le hbw hz) (fun e => by have := HOB.out _ e.symm; simp only at this; omega)).trans KEEP.2.2.2.1, (grown_cell hg2 (p := ⟨b, o + k * 3 + 2, none⟩) (Nat.lt_of_lt_of_le hbw hz) (fun e => by have := HOB.out _ e.symm; simp only at this; omega)).trans KEEP.2.2.2.2⟩
    have hf2 : w2.frozen? ⟨lb, k * 2, none⟩ = false := by
      have h := OwnAll.up HBLD.out ((Ext.refl wr).alloc (.cells #[.int .i64 z.kind, .int .i64 z.int, .string z.str] 41)).below
      obtain ⟨hs, q1, -, -, -, -, -, -⟩ := h
      exact (q1.grown (w := wr.alloc (.cells #[.int .i64 z.kind, .int .i64 z.int, .string z.str] 41)) (w' := w2) (row := v.ownBlock) ⟨hg2.os, hg2.tape, hg2.output, hg2.size, hg2.block⟩ (fun e => by have := HOB.out _ e.symm; omega)).frozen _
    have HOWN2 := Lib.hid hown2
    have HG2 := Lib.hid hg2
    have HAT2 := Lib.hid hat2
    clear hown2 hg2 hat2
    refine hK.out _ _ KEEP2 (fun hHeld => ?_)
    clear hK K
    try simp only [Act.put]
    try simp only [List.setIfInBounds_toArray]
    try simp only [List.set_cons_succ]
    try simp only [List.set_cons_zero]
    refine takeZ (i := 15) (v := ?_) (some 29) rfl rfl (by kernel_rfl) (by decide) (by kernel_rfl) (by kernel_rfl) (by kernel_rfl) (by kernel_rfl) (fun _ _ _ h => h) (Or.inl ⟨by rfl, ?_⟩) (by assumption) ?_
    rotate_left 1
    · (intro w0 hSw; (try dsimp only at hSw); go_simp; try (with_reducible rfl))
    try simp only [Act.put]
    try simp only [List.setIfInBounds_toArray]
    try simp only [List.set_cons_succ]
    try simp only [List.set_cons_zero]
    refine takeZ (i := 16) (v := ?_) (some 30) rfl rfl (by kernel_rfl) (by decide) (by kernel_rfl) (by kernel_rfl) (by kernel_rfl) (by kernel_rfl) (fun _ _ _ h => h) (Or.inl ⟨by rfl, ?_⟩) (by assumption) ?_
    rotate_left 1
    · (intro w0 hSw; (try dsimp only at hSw); go_simp; try (with_reducible rfl))
    try simp only [Act.put]
    try simp only [List.setIfInBounds_toArray]
    try simp only [List.set_cons_succ]
    try simp only [List.set_cons_zero]
    refine lastZ (by kernel_rfl) rfl (by kernel_rfl) (fun K hK => ?_)
    go_simp
    go_wp2_with fail
    refine hK.out _ _ ?_
    clear hK K
    try simp only [Act.put]
    try simp only [List.setIfInBounds_toArray]
    try simp only [List.set_cons_succ]
    try simp only [List.set_cons_zero]
    go_wp2
    obtain ⟨W3, hW3⟩ : ∃ W3, W3 = w2.setCell ⟨lb, k * 2, none⟩ (.slice (some ⟨ng, 0, none⟩) ((vs k).length + 1) cap) := ⟨_, rfl⟩
    have hxa : Ext wr ((wr.alloc (.cells #[.int .i64 z.kind, .int .i64 z.int, .string z.str] 41)).drew) := ((Ext.refl wr).alloc _).drew
    have hB3 : BldM B (fun b => b ≠ w.heap.size) W3 lb d (addV vs x frm (k + 1)) (addF d vs fs frm k) := by
      rw [hW3, addV_step vs x hk1]
      refine OwnAll.put (OwnAll.up HBLD.out hxa.below) KEEP.2.1 (spF_updv _ _ _ _) ?_ HG2.out (fun j hj => ?_) (fun j hj => ?_)
      · rw [spF_v, upd_self, HZ.out, List.length_append]
        exact HOWN2.out
      · injection hj with hj
        subst hj
        rcases HAT2.out with h | h
        · exact .inl h
        · exact .inr (by rw [h]; exact Nat.le_refl _)
      · injection hj with hj
        subst hj
        rcases HAT2.out with h | h
        · exact HQV.out _ h
        · rw [h]; simp; omega
    have hR3 : Row W3 w.heap.size 109 [.slice (some ⟨lb, 0, none⟩) d dc] := by
      rw [hW3]
      exact ((HROW.out.up hxa.below).grown HG2.out (fun e => HQV.out _ e.symm rfl)).far (by simp; omega) _
    have hK3 : KeepX B lb w W3 := by
      rw [hW3]
      exact ((HKEEP.out.trans (KeepX.below hxa.below (by omega))).trans (KeepX.grown HG2.out (Nat.le_trans (by omega) hxa.size) (fun j hj => HOB.out j hj))).trans (KeepX.set w2 _ _)
    rw [← hW3]
    have h3z : wr.heap.size ≤ W3.heap.size := by rw [hW3]; have := HG2.out.size; have := hxa.size; simp at *; omega
    clear hW3 KEEP KEEP2 hf2 HOWN2 HG2 HAT2 HBLD HROW HKEEP HOV HQV HOB hxa t0 cv c1 c2 c3 fv hHeld
    have t0 : W3.cell? ⟨w.heap.size, 0, none⟩ = some (.slice (some ⟨lb, 0, none⟩) d dc) := hR3.cell 0
    obtain ⟨f, cf, of, qf, ff⟩ := OwnAll.at_ hB3 (show k * 2 + 1 < d * 2 by omega)
    rw [spF_f, addF_at] at of
    have HSZ : Hid (∀ W, Ext W3 W → Calls Try.prog 74 #[.agg #[.slice (some ⟨lb, 0, none⟩) d dc], .int .i64 ((k : Int) + 1)] W fun e w' => e = .returned (.int .i64 (sizeF d vs (k + 1) : Nat)) ∧ Ext W w') := fun W hW => by
      have h := trSize_any W3.heap.size (some ⟨lb, 0, none⟩) d dc (addV vs x frm (k + 1)) (addF d vs fs frm k) (k + 1) W ((BldM.tr hB3).below hW.below (Nat.le_refl _)) hW.size (by omega) (by omega)
      have e1 : sizeF d (addV vs x frm (k + 1)) (k + 1) = sizeF d vs (k + 1) := by unfold sizeF; rw [addV_at]
      rw [e1] at h
      exact h
    have HB3 := Lib.hid hB3
    have HR3 := Lib.hid hR3
    have HK3 := Lib.hid hK3
    have hlw3 : lb < W3.heap.size := by omega
    have htw3 : w.heap.size < W3.heap.size := by omega
    have HOF := Lib.hid of
    have HQF := Lib.hid qf
    have HOB : Hid (∀ j, f.ownBlock = some j → B ≤ j) := fun j hj => own_base of hj
    have hfk := HF.out k
    have hw1 : IntKind.i64.wrap ((k : Int) + 1) = (k : Int) + 1 := IntWalk.i64_in _ (by omega)
    clear hB3 hR3 hK3 of qf
    obtain ⟨n, hn⟩ : ∃ n, n = sizeF d vs (k + 1) := ⟨_, rfl⟩
    have HN : Hid (sizeF d vs (k + 1) = n) := hn.symm
    rw [← hn] at HSZ
    clear hn

    refine regionZ (S := (fun w' => w'.cell? ⟨w.heap.size, 0, none⟩ = some (.slice (some ⟨lb, 0, none⟩) d dc) ∧ w'.cell? ⟨lb, k * 2 + 1, none⟩ = some f)) 17 (by kernel_rfl) ⟨t0, cf⟩ (fun hHeld => ?_)
    refine takeZ (i := 0) (v := ?_) (some 31) rfl rfl (by kernel_rfl) (by decide) (by kernel_rfl) (by kernel_rfl) (by kernel_rfl) (by kernel_rfl) (fun _ _ _ h => h) (Or.inl ⟨by rfl, ?_⟩) (by assumption) ?_
    rotate_left 1
    · (intro w0 hSw; (try dsimp only at hSw); go_simp; try (with_reducible rfl))
    try simp only [Act.put]
    try simp only [List.setIfInBounds_toArray]
    try simp only [List.set_cons_succ]
    try simp only [List.set_cons_zero]
    refine takeZ (i := 1) (v := ?_) (some 32) rfl rfl (by kernel_rfl) (by decide) (by kernel_rfl) (by kernel_rfl) (by kernel_rfl) (by kernel_rfl) (fun _ _ _ h => h) (Or.inl ⟨by rfl, ?_⟩) (by assumption) ?_
    rotate_left 1
    · (intro w0 hSw; (try dsimp only at hSw); go_simp; try (with_reducible rfl))
    try simp only [Act.put]
    try simp only [List.setIfInBounds_toArray]
    try simp only [List.set_cons_succ]
    try simp only [List.set_cons_zero]
    refine takeZ (i := 2) (v := ?_) (some 33) rfl rfl (by kernel_rfl) (by decide) (by kernel_rfl) (by kernel_rfl) (by kernel_rfl) (by kernel_rfl) (fun _ _ _ h => h) (Or.inl ⟨by rfl, ?_⟩) (by assumption) ?_
    rotate_left 1
    · (intro w0 hSw; (try dsimp only at hSw); go_simp; try (with_reducible rfl))
    try simp only [Act.put]
    try simp only [List.setIfInBounds_toArray]
    try simp only [List.set_cons_succ]
    try simp only [List.set_cons_zero]
    refine takeZ (i := 3) (v := ?_) (some 34) rfl rfl (by kernel_rfl) (by decide) (by kernel_rfl) (by kernel_rfl) (by kernel_rfl) (by kernel_rfl) (fun _ _ _ h => h) (Or.inl ⟨by rfl, ?_⟩) (by assumption) ?_
    rotate_left 1
    · (intro w0 hSw; (try dsimp only at hSw); go_simp; try (with_reducible rfl))
    try simp only [Act.put]
    try simp only [List.setIfInBounds_toArray]
    try simp only [List.set_cons_succ]
    try simp only [List.set_cons_zero]
    refine takeZ (i := 4) (v := ?_) (some 35) rfl rfl (by kernel_rfl) (by decide) (by kernel_rfl) (by kernel_rfl) (by kernel_rfl) (by kernel_rfl) (fun _ _ _ h => h) (Or.inl ⟨by rfl, ?_⟩) (by assumption) ?_
    rotate_left 1
    · (intro w0 hSw; (try dsimp only at hSw); go_simp; try (with_reducible rfl))
    try simp only [Act.put]
    try simp only [List.setIfInBounds_toArray]
    try simp only [List.set_cons_succ]
    try simp only [List.set_cons_zero]
    refine takeZ (i := 5) (v := ?_) (some 36) rfl rfl (by kernel_rfl) (by decide) (by kernel_rfl) (by kernel_rfl) (by kernel_rfl) (by kernel_rfl) (fun _ _ _ h => h) (Or.inl ⟨by rfl, ?_⟩) (by assumption) ?_
    rotate_left 1
    · (intro w0 hSw; (try dsimp only at hSw); go_simp; try (with_reducible rfl))
    try simp only [Act.put]
    try simp only [List.setIfInBounds_toArray]
    try simp only [List.set_cons_succ]
    try simp only [List.set_cons_zero]
    refine takeZ (i := 6) (v := ?_) (some 37) rfl rfl (by kernel_rfl) (by decide) (by kernel_rfl) (by kernel_rfl) (by kernel_rfl) (by kernel_rfl) (fun _ _ _ h => h) (Or.inl ⟨by rfl, ?_⟩) (by assumption) ?_
    rotate_left 1
    · (intro w0 hSw; (try dsimp only at hSw); go_simp; try (with_reducible rfl))
    try simp only [Act.put]
    try simp only [List.setIfInBounds_toArray]
    try simp only [List.set_cons_succ]
    try simp only [List.set_cons_zero]
    refine takeZ (i := 7) (v := ?_) (some 38) rfl rfl (by kernel_rfl) (by decide) (by kernel_rfl) (by kernel_rfl) (by kernel_rfl) (by kernel_rfl) (fun _ _ _ h => h) (Or.inl ⟨by rfl, ?_⟩) (by assumption) ?_
    rotate_left 1
    · (intro w0 hSw; (try dsimp only at hSw); go_simp; try (with_reducible rfl))
    try simp only [Act.put]
    try simp only [List.setIfInBounds_toArray]
    try simp only [List.set_cons_succ]
    try simp only [List.set_cons_zero]
    refine takeZ (i := 8) (v := ?_) (some 39) rfl rfl (by kernel_rfl) (by decide) (by kernel_rfl) (by kernel_rfl) (by kernel_rfl) (by kernel_rfl) (fun _ _ _ h => h) (Or.inl ⟨by rfl, ?_⟩) (by assumption) ?_
    rotate_left 1
    · (intro w0 hSw; (try dsimp only at hSw); go_simp; try (with_reducible rfl))
    try simp only [Act.put]
    try simp only [List.setIfInBounds_toArray]
    try simp only [List.set_cons_succ]
    try simp only [List.set_cons_zero]
    refine takeZ (i := 9) (v := ?_) (some 40) rfl rfl (by kernel_rfl) (by decide) (by kernel_rfl) (by kernel_rfl) (by kernel_rfl) (by kernel_rfl) (fun _ _ _ h => h) (Or.inl ⟨by rfl, ?_⟩) (by assumption) ?_
    rotate_left 1
    · (intro w0 hSw; (try dsimp only at hSw); go_simp; try (with_reducible rfl))
    try simp only [Act.put]
    try simp only [List.setIfInBounds_toArray]
    try simp only [List.set_cons_succ]
    try simp only [List.set_cons_zero]
    refine takeZ (i := 10) (v := ?_) (some 41) rfl rfl (by kernel_rfl) (by decide) (by kernel_rfl) (by kernel_rfl) (by kernel_rfl) (by kernel_rfl) (fun _ _ _ h => h) (Or.inl ⟨by rfl, ?_⟩) (by assumption) ?_
    rotate_left 1
    · (intro w0 hSw; (try dsimp only at hSw); go_simp; try (with_reducible rfl))
    try simp only [Act.put]
    try simp only [List.setIfInBounds_toArray]
    try simp only [List.set_cons_succ]
    try simp only [List.set_cons_zero]
    refine takeZ (i := 11) (v := ?_) (some 42) rfl rfl (by kernel_rfl) (by decide) (by kernel_rfl) (by kernel_rfl) (by kernel_rfl) (by kernel_rfl) (fun _ _ _ h => h) (Or.inl ⟨by rfl, ?_⟩) (by assumption) ?_
    rotate_left 1
    · (intro w0 hSw; (try dsimp only at hSw); go_simp; try (with_reducible rfl))
    try simp only [Act.put]
    try simp only [List.setIfInBounds_toArray]
    try simp only [List.set_cons_succ]
    try simp only [List.set_cons_zero]
    refine oneZ (i := 12) (by kernel_rfl) rfl (by decide) (fun K hK => ?_)
    go_simp
    refine (HSZ.out _ (Ext.refl W3).drew).mono ?_
    rintro e w4 ⟨rfl, hx0⟩
    have hx : Ext W3 w4 := (Ext.refl W3).drew.trans hx0
    have KEEP : w4.cell? ⟨w.heap.size, 0, none⟩ = some (.slice (some ⟨lb, 0, none⟩) d dc) ∧ w4.cell? ⟨lb, k * 2 + 1, none⟩ = some f := ⟨(hx.cell htw3).trans t0, (hx.cell hlw3).trans cf⟩
    have HX4 := Lib.hid hx
    clear hx hx0
    go_wp2_with fail
    refine hK.out _ _ KEEP (fun hHeld => ?_)
    clear hK K
    try simp only [Act.put]
    try simp only [List.setIfInBounds_toArray]
    try simp only [List.set_cons_succ]
    try simp only [List.set_cons_zero]
    refine oneZ (i := 13) (by kernel_rfl) rfl (by decide) (fun K hK => ?_)
    go_simp
    have hxa : Ext W3 (w4.alloc (.cells #[.int .i64 (n : Int)] 3)) := HX4.out.alloc _
    have KEEP1 := (⟨(hxa.cell htw3).trans t0, (hxa.cell hlw3).trans cf⟩ : _ ∧ _)
    have KEEP2K := Lib.hid KEEP1.2
    clear hxa
    refine hK.out _ _ KEEP1 (fun hHeld => ?_)
    clear hK K
    try simp only [Act.put]
    try simp only [List.setIfInBounds_toArray]
    try simp only [List.set_cons_succ]
    try simp only [List.set_cons_zero]
    refine oneZ (i := 14) (by kernel_rfl) rfl (by decide) (fun K hK => ?_)
    refine stepI (w := w4.alloc (.cells #[.int .i64 (n : Int)] 3)) rfl (.tmp 39) (.tmp 44) rfl B f (fs k) (by simp [Act.eval]) (own_keep HOF.out (HX4.out.alloc _).below) w4.heap.size n (by simp [Act.eval]) (Row.new w4 3 [.int .i64 (n : Int)]) (by omega) (by have := HX4.out.size; simp; omega) ?_
    intro ng cap w2 hown2 hg2 hat2
    have hza := (HX4.out.alloc (.cells #[.int .i64 (n : Int)] 3)).size
    have KEEP2 : w2.cell? ⟨w.heap.size, 0, none⟩ = some (.slice (some ⟨lb, 0, none⟩) d dc) ∧ w2.cell? ⟨lb, k * 2 + 1, none⟩ = some f :=
      ⟨(grown_cell hg2 (p := ⟨w.heap.size, 0, none⟩) (Nat.lt_of_lt_of_le htw3 hza) (fun e => HQF.out _ e.symm rfl)).trans KEEP1.1, (grown_cell hg2 (p := ⟨lb, k * 2 + 1, none⟩) (Nat.lt_of_lt_of_le hlw3 hza) (fun e => by have := HOB.out _ e.symm; simp only at this; omega)).trans KEEP1.2⟩
    have hf2 : w2.frozen? ⟨lb, k * 2 + 1, none⟩ = false := by
      have h := OwnAll.up HB3.out (HX4.out.alloc (.cells #[.int .i64 (n : Int)] 3)).below
      obtain ⟨hs, q1, -, -, -, -, -, -⟩ := h
      exact (q1.grown hg2 (fun e => by have := HOB.out _ e.symm; omega)).frozen _
    have HOWN2 := Lib.hid hown2
    have HG2 := Lib.hid hg2
    have HAT2 := Lib.hid hat2
    clear hown2 hg2 hat2 hza
    refine hK.out _ _ KEEP2 (fun hHeld => ?_)
    clear hK K
    try simp only [Act.put]
    try simp only [List.setIfInBounds_toArray]
    try simp only [List.set_cons_succ]
    try simp only [List.set_cons_zero]
    refine takeZ (i := 15) (v := ?_) (some 46) rfl rfl (by kernel_rfl) (by decide) (by kernel_rfl) (by kernel_rfl) (by kernel_rfl) (by kernel_rfl) (fun _ _ _ h => h) (Or.inl ⟨by rfl, ?_⟩) (by assumption) ?_
    rotate_left 1
    · (intro w0 hSw; (try dsimp only at hSw); go_simp; try (with_reducible rfl))
    try simp only [Act.put]
    try simp only [List.setIfInBounds_toArray]
    try simp only [List.set_cons_succ]
    try simp only [List.set_cons_zero]
    refine takeZ (i := 16) (v := ?_) (some 47) rfl rfl (by kernel_rfl) (by decide) (by kernel_rfl) (by kernel_rfl) (by kernel_rfl) (by kernel_rfl) (fun _ _ _ h => h) (Or.inl ⟨by rfl, ?_⟩) (by assumption) ?_
    rotate_left 1
    · (intro w0 hSw; (try dsimp only at hSw); go_simp; try (with_reducible rfl))
    try simp only [Act.put]
    try simp only [List.setIfInBounds_toArray]
    try simp only [List.set_cons_succ]
    try simp only [List.set_cons_zero]
    refine lastZ (by kernel_rfl) rfl (by kernel_rfl) (fun K hK => ?_)
    go_simp
    go_wp2_with fail
    refine hK.out _ _ ?_
    clear hK K
    try simp only [Act.put]
    try simp only [List.setIfInBounds_toArray]
    try simp only [List.set_cons_succ]
    try simp only [List.set_cons_zero]
    go_wp2
    go_roundw
    case rel =>
      have hx5 : Ext W3 (w4.alloc (.cells #[.int .i64 (n : Int)] 3)) := HX4.out.alloc _
      refine ⟨k + 1, by omega, by omega, by go_num, ?_, ?_, ?_⟩
      · rw [addF_step d vs fs hk1]
        refine OwnAll.put (OwnAll.up HB3.out hx5.below) KEEP2K.out (spF_updf _ _ _ _) ?_ HG2.out (fun j hj => ?_) (fun j hj => ?_)
        · rw [spF_f, upd_self, List.length_append, HN.out]
          exact HOWN2.out
        · injection hj with hj
          subst hj
          rcases HAT2.out with h | h
          · exact .inl h
          · exact .inr (by rw [h]; exact Nat.le_refl _)
        · injection hj with hj
          subst hj
          rcases HAT2.out with h | h
          · exact HQF.out _ h
          · have := hx5.size; rw [h]; dsimp only; omega
      · exact ((HR3.out.up hx5.below).grown HG2.out (fun e => HQF.out _ e.symm rfl)).far (by simp; omega) _
      · exact ((HK3.out.trans (KeepX.below hx5.below (by omega))).trans (KeepX.grown HG2.out (Nat.le_trans (by omega) hx5.size) (fun j hj => HOB.out j hj))).trans (KeepX.set w2 _ _)
    case measure => simp [intOf]; omega

end Go.Proofs.Ytiomelogggilgaa
end

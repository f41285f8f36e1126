/- Parts of the proof, merged: RMem, TPlain, I1, E7, RRange, U4, K3, K4, U1, E8, U2, V15, U3, U5, K8, N2, N5, Y0, G0, JPlain, W1, W3, G1. -/
import Derived.Test.YthgaflmldbgbnaaDoorQ2
import Derived.StillTailTactics
import Derived.Test.YthgaflmldbgbnaaDoorQ1
import Derived.Deep.RegionHeld3
import Derived.Outline
import Derived.IntWalk
import Derived.WalkLawsBesides
import Derived.Deep.AppendLies
import Derived.Test.YthgaflmldbgbnaaDoorRows
import Derived.Deep.DeepCutAuto
import Derived.Lib.SliceRun

section
/- Plain: membership in an ascending list whose first rows are known to be smaller; merging two ascending lists. -/
namespace Go.Proofs.YthgaflmldbgbnaaDoor.RL

theorem mem_take_drop {Y : List R} (j : Nat) (x : R) : x ∈ Y ↔ x ∈ Y.take j ∨ x ∈ Y.drop j := by
  conv => lhs; rw [← List.take_append_drop j Y]
  exact List.mem_append
/-- A merge under way: L holds the first k rows of X and the first j rows of Y, and all that is left is greater. -/
structure Merge (X Y : List R) (k j : Nat) (L : List R) : Prop where
  ss : SS L
  mem : ∀ r, r ∈ L ↔ r ∈ X.take k ∨ r ∈ Y.take j
  ltX : ∀ r ∈ L, ∀ s ∈ X.drop k, cmpR r s < 0
  ltY : ∀ r ∈ L, ∀ s ∈ Y.drop j, cmpR r s < 0
  kle : k ≤ X.length
  jle : j ≤ Y.length
  len : L.length ≤ k + j

theorem Merge.start (X Y : List R) : Merge X Y 0 0 [] := ⟨ss_nil, (fun r => by simp), (fun r h => by cases h), (fun r h => by cases h), Nat.zero_le _, Nat.zero_le _, Nat.le_refl _⟩
/-- All of X is taken: what is left of Y ends the merge. -/
theorem Merge.done {X Y L : List R} {j : Nat} (m : Merge X Y X.length j L) (hY : SS Y) : SS (L ++ Y.drop j) ∧ ∀ r, r ∈ L ++ Y.drop j ↔ r ∈ X ∨ r ∈ Y := by
  refine ⟨?_, fun r => ?_⟩
  · unfold SS
    rw [List.pairwise_append]
    exact ⟨m.ss, hY.drop j, fun a ha b hb => m.ltY a ha b hb⟩
  · rw [List.mem_append, m.mem, List.take_length, mem_take_drop (Y := Y) j r, or_assoc]

end Go.Proofs.YthgaflmldbgbnaaDoor.RL
end

section
/- Plain: the nodes of a trie over ascending rows, level by level, and where the children of a node lie. -/
namespace Go.Proofs.YthgaflmldbgbnaaDoor.RL

theorem cmpR_cons (a b : V) (x y : R) : cmpR (a :: x) (b :: y) = if cmpV a b = 0 then cmpR x y else cmpV a b := rfl
/-- A strict comparison of two rows of one length is not turned by what stands behind them. -/
theorem lt_ext : ∀ (a b s t : R), a.length = b.length → cmpR a b < 0 → cmpR (a ++ s) (b ++ t) < 0
  | [], [], _, _, _, h => by simp [cmpR, cmpL] at h
  | [], _ :: _, _, _, hl, _ => by simp at hl
  | _ :: _, [], _, _, hl, _ => by simp at hl
  | a :: x, b :: y, s, t, hl, h => by
    rw [List.cons_append, List.cons_append, cmpR_cons]
    rw [cmpR_cons] at h
    split at h
    · rename_i e; rw [if_pos e]; exact lt_ext x y s t (by simpa using hl) h
    · rename_i e; rw [if_neg e]; exact h

/-- The nodes of a level: the distinct beginnings of the rows. -/
def nodes (d : Nat) (P : List R) (l : Nat) : List R := if l < d then ofF (P.map (List.take (l + 1))) else []
theorem nodes_ss (d : Nat) (P : List R) (l : Nat) : SS (nodes d P l) := by
  unfold nodes
  split
  · exact SS.of _
  · exact ss_nil
theorem mem_nodes {d : Nat} {P : List R} {l : Nat} (hl : l < d) (q : R) : q ∈ nodes d P l ↔ ∃ y ∈ P, y.take (l + 1) = q := by
  unfold nodes
  rw [if_pos hl, mem_ofF, List.mem_map]
theorem nodes_out {d : Nat} {P : List R} {l : Nat} (hl : d ≤ l) : nodes d P l = [] := by unfold nodes; rw [if_neg (by omega)]
theorem mem_nodes_len {d : Nat} {P : List R} (hd : ∀ r ∈ P, r.length = d) {l : Nat} {q : R} (h : q ∈ nodes d P l) : q.length = l + 1 := by
  by_cases hl : l < d
  · obtain ⟨y, hy, rfl⟩ := (mem_nodes hl q).1 h
    have := hd y hy
    simp; omega
  · rw [nodes_out (by omega)] at h; cases h

section
variable {d : Nat} {P : List R} {x : R} (hS : SS (P ++ [x])) (hd : ∀ r ∈ P ++ [x], r.length = d)
include hS hd
end

/-- Where the children of each node of a level begin in the next level. -/
def firsts (d : Nat) (P : List R) (l : Nat) : List Nat := (nodes d P l).map (rank (nodes d P (l + 1)))

section
variable {d : Nat} {P : List R} {x : R} (hS : SS (P ++ [x])) (hd : ∀ r ∈ P ++ [x], r.length = d)
include hS hd
end
section
variable {d : Nat} {P : List R} (hd : ∀ r ∈ P, r.length = d)
include hd
end

end Go.Proofs.YthgaflmldbgbnaaDoor.RL
end

section
/- Words for tries and iterators in memory; walks: onValue, Level, Steps, Depth, size, Iter. -/
namespace Go.Proofs.YthgaflmldbgbnaaDoor
open Go.RowKit Go.Sort

/-- The levels of a trie in memory: the values of each level, and where the children of each node begin. -/
def TrM (B : Nat) (w : World) (LA : Option Addr) (d : Nat) (vs : Nat → RL.R) (fs : Nat → List Nat) : Prop :=
  ∀ l, l < d → ∃ b o VA VC FA FC, LA = some ⟨b, o, none⟩ ∧ b < B ∧ w.cell? ⟨b, o + l * 2, none⟩ = some (.slice VA (vs l).length VC) ∧ w.cell? ⟨b, o + l * 2 + 1, none⟩ = some (.slice FA (fs l).length FC) ∧ (vs l).length ≤ VC ∧ VC ≤ 9223372036854775807 ∧ SlR B w VA (vs l) ∧ SlN .i64 B w FA (fs l)
theorem TrM.keep {B : Nat} {w w' : World} {LA : Option Addr} {d : Nat} {vs : Nat → RL.R} {fs : Nat → List Nat} (h : TrM B w LA d vs fs) (hk : ∀ p : Addr, p.block < B → w'.cell? p = w.cell? p) : TrM B w' LA d vs fs := fun l hl => by
  obtain ⟨b, o, VA, VC, FA, FC, h1, h2, h3, h4, h5, h6, h7, h8⟩ := h l hl
  exact ⟨b, o, VA, VC, FA, FC, h1, h2, (hk ⟨b, o + l * 2, none⟩ h2).trans h3, (hk ⟨b, o + l * 2 + 1, none⟩ h2).trans h4, h5, h6, Sl.keep h7 hk, Sl.keep h8 hk⟩
theorem TrM.grown {B g : Nat} {w w' : World} {LA : Option Addr} {d : Nat} {vs : Nat → RL.R} {fs : Nat → List Nat} (h : TrM B w LA d vs fs) (hg : w.grownBy w' (some g)) (hB : B ≤ g) (hz : B ≤ w.heap.size) : TrM B w' LA d vs fs :=
  h.keep fun _p hp => (below_of_grown hg hB hz).cell hp
theorem TrM.below {B C : Nat} {w w' : World} {LA : Option Addr} {d : Nat} {vs : Nat → RL.R} {fs : Nat → List Nat} (h : TrM B w LA d vs fs) (hb : Below C w w') (hB : B ≤ C) : TrM B w' LA d vs fs :=
  h.keep fun p hp => hb.cell (by omega)
theorem TrM.more {B B' : Nat} {w : World} {LA : Option Addr} {d : Nat} {vs : Nat → RL.R} {fs : Nat → List Nat} (h : TrM B w LA d vs fs) (hB : B ≤ B') : TrM B' w LA d vs fs := fun l hl => by
  obtain ⟨b, o, VA, VC, FA, FC, h1, h2, h3, h4, h5, h6, h7, h8⟩ := h l hl
  exact ⟨b, o, VA, VC, FA, FC, h1, by omega, h3, h4, h5, h6, Sl.more h7 hB, Sl.more h8 hB⟩

/-- A trie that lies in blocks from lo on: it stays whatever turns below. -/
def TrK (lo : Nat) (w : World) (LA : Option Addr) (d : Nat) (vs : Nat → RL.R) (fs : Nat → List Nat) : Prop :=
  ∀ w'' : World, (∀ p : Addr, lo ≤ p.block → p.block < w.heap.size → w''.cell? p = w.cell? p) → TrM w.heap.size w'' LA d vs fs
theorem TrK.tr {lo : Nat} {w : World} {LA : Option Addr} {d : Nat} {vs : Nat → RL.R} {fs : Nat → List Nat} (h : TrK lo w LA d vs fs) : TrM w.heap.size w LA d vs fs := h w fun _ _ _ => rfl
/-- An iterator: its level, its place among its siblings and their end, its steps, the places above. -/
structure It where
  L : Nat
  pos : Nat
  fin : Nat
  steps : Nat
  ab : Nat → Nat × Nat
section
variable {w w' : World} {g : Nat} {LA : Option Addr} {d C : Nat} {t : It} {xs : List Value}
end

end Go.Proofs.YthgaflmldbgbnaaDoor
end

section
/- A move for regions that draw their order. -/
namespace Go.Proofs.YthgaflmldbgbnaaDoor
open Go.RowKit Go.Sort

/-- wpAnyH_take with the slot written out. -/
theorem takeOp {P : Program} {md : Region.Mode} {ops : Array Oper} {Q : Exit → Act → World → Prop} {S : World → Prop} {i : Nat} {oi : Oper} {v : Value} {fuel : Nat} {listed : Array Bool} {a : Act} {w : World} (d : Option Tmp) (hi : ops[i]? = some oi) (hd : oi.dst = d)
    (hs : Region.noSelect ops = true) (hf : Region.free md ops listed i = true) (hr : (Region.ready md ops listed).contains i = true)
    (hQ : ∀ c a w, Q (.panic c) (a.put d v) w → Q (.panic c) a w) (hy : YieldsIf P ops S oi v a) (hS : S w)
    (h : wpAnyH P md ops Q S fuel (listed.setIfInBounds i true) (a.put d v) w) : wpAnyH P md ops Q S (fuel + 1) listed a w := by
  subst hd
  exact wpAnyH_take hi hs hf hr hQ hy hS h

end Go.Proofs.YthgaflmldbgbnaaDoor
end

section
/- Plain: the rows that begin with a row are a range of a sorted list; what lies below a node of a trie. -/
namespace Go.Proofs.YthgaflmldbgbnaaDoor.RL

theorem cmpR_append_left : ∀ (q x y : R), cmpR (q ++ x) (q ++ y) = cmpR x y
  | [], _, _ => rfl
  | a :: q, x, y => by rw [List.cons_append, List.cons_append, cmpR_cons, if_pos (tot_cmpV.self a)]; exact cmpR_append_left q x y
theorem cmpR_one (a b : V) : cmpR [a] [b] = cmpV a b := by
  rw [cmpR_cons]
  split
  · rename_i h; rw [h]; simp [cmpR, cmpL]
  · rfl

/-- The last value of a row. -/
def lastV (y : R) : V := y.getLastD default
theorem lastV_snoc (q : R) (v : V) : lastV (q ++ [v]) = v := by unfold lastV; rw [List.getLastD_concat]
/-- Where the nodes below q begin on their level. -/
def lo (d : Nat) (P : List R) (q : R) : Nat := rank (nodes d P q.length) q
/-- The values below q, in order. -/
def kids (d : Nat) (P : List R) (q : R) : R := ((nodes d P q.length).filter (fun y => beginsB y q)).map lastV
section
variable {d : Nat} {P : List R}
theorem kids_out {q : R} (h : d ≤ q.length) : kids d P q = [] := by unfold kids; rw [nodes_out h]; rfl
theorem node_snoc (hd : ∀ r ∈ P, r.length = d) {q y : R} (hy : y ∈ nodes d P q.length) (hb : beginsB y q = true) : y = q ++ [lastV y] := by
  obtain ⟨s, rfl⟩ := (beginsB_iff _ _).1 hb
  have hl := mem_nodes_len hd hy
  rw [List.length_append] at hl
  obtain ⟨v, rfl⟩ := List.length_eq_one_iff.1 (show s.length = 1 by omega)
  rw [lastV_snoc]
theorem mem_kids (hd : ∀ r ∈ P, r.length = d) {q : R} (hq : q.length < d) (v : V) : v ∈ kids d P q ↔ ∃ y ∈ P, y.take (q.length + 1) = q ++ [v] := by
  unfold kids
  rw [List.mem_map]
  constructor
  · rintro ⟨y, hy, rfl⟩
    rw [List.mem_filter] at hy
    obtain ⟨z, hz, e⟩ := (mem_nodes hq y).1 hy.1
    exact ⟨z, hz, by rw [e]; exact node_snoc hd hy.1 hy.2⟩
  · rintro ⟨y, hy, e⟩
    refine ⟨q ++ [v], List.mem_filter.2 ⟨(mem_nodes hq _).2 ⟨y, hy, e⟩, (beginsB_iff _ _).2 ⟨_, rfl⟩⟩, lastV_snoc q v⟩
theorem kids_asc (hd : ∀ r ∈ P, r.length = d) (q : R) : (kids d P q).Pairwise fun a b => cmpV a b < 0 := by
  unfold kids
  rw [List.pairwise_map]
  refine List.Pairwise.imp_of_mem (fun {a b} ha hb hab => ?_) ((nodes_ss d P q.length).filter _)
  rw [List.mem_filter] at ha hb
  rw [node_snoc hd ha.1 ha.2, node_snoc hd hb.1 hb.2, cmpR_append_left, cmpR_one] at hab
  exact hab
end

end Go.Proofs.YthgaflmldbgbnaaDoor.RL
end

section
/- Iterators over the trie of a relation: where they stand, told by the values on the path; each movement as one contract. -/
namespace Go.Proofs.YthgaflmldbgbnaaDoor
open Go.RowKit Go.Sort

/-- The values of a level, and where the children of its nodes begin. -/
def vsF (d : Nat) (P : List RL.R) (l : Nat) : RL.R := (RL.nodes d P l).map RL.lastV
def fsF (d : Nat) (P : List RL.R) (l : Nat) : List Nat := RL.firsts d P l ++ [(RL.nodes d P (l + 1)).length]
/-- Where an iterator stands: at the root, or below the node q at its child number i (behind the last one, if i is their number). -/
abbrev Pl := Option (RL.R × Nat)
def upB : Pl → Bool
  | none => false
  | some _ => true
section
variable {w w' : World} {g : Nat} {LA : Option Addr} {d C : Nat} {P : List RL.R} {x : Pl} {s : Nat}
end

theorem countP_ge {K : RL.R} {v : RL.V} (h : K.Pairwise fun a b => RL.cmpV a b < 0) {q : Nat} (hq : q ≤ K.length) (h2 : ∀ hj : q < K.length, ¬ RL.cmpV K[q] v < 0) : (K.countP fun u => decide (RL.cmpV u v < 0)) ≤ q := by
  have e := List.take_append_drop q K
  conv => lhs; rw [← e, List.countP_append]
  have a1 := List.countP_le_length (p := fun u => decide (RL.cmpV u v < 0)) (l := K.take q)
  have a2 : (K.drop q).countP (fun u => decide (RL.cmpV u v < 0)) = 0 := List.countP_eq_zero.2 fun u hu => by
    obtain ⟨j, hj, rfl⟩ := List.getElem_of_mem hu
    simp at hj
    rw [List.getElem_drop]
    simp only [decide_eq_true_eq]
    intro hlt
    have h3 := h2 (by omega)
    rcases Nat.eq_zero_or_pos j with rfl | hj0
    · exact h3 hlt
    · have h4 := List.pairwise_iff_getElem.1 h q (q + j) (by omega) (by omega) (by omega)
      exact h3 (RL.tot_cmpV.tr _ _ _ h4 hlt)
  rw [a2]
  rw [List.length_take] at a1
  omega

end Go.Proofs.YthgaflmldbgbnaaDoor
end

section
/- Walks: the laws of chapter 34: Value, great, same. -/
namespace Go.Proofs.YthgaflmldbgbnaaDoor
open Go.RowKit Go.Sort

/-- The value of a number below 256. -/
def valN (n : Nat) : RL.V := if 99 < n then ⟨2, 0, ⟨#[UInt8.ofNat n]⟩⟩ else ⟨1, n, ⟨#[]⟩⟩

end Go.Proofs.YthgaflmldbgbnaaDoor
end

section
/- Walk: Rows of chapter 34's laws. -/
namespace Go.Proofs.YthgaflmldbgbnaaDoor
open Go.RowKit Go.Sort

/-- The slice at address A reads as the arrays X of m bytes. -/
def SlA (m B : Nat) (w : World) (A : Option Addr) (X : List (List Nat)) : Prop :=
  X ≠ [] → ∃ b o, A = some ⟨b, o, none⟩ ∧ b < B ∧ ∀ i (h : i < X.length) k, k < m → w.cell? ⟨b, o + i * m + k, none⟩ = some (.int .u8 (X[i].getD k 0 : Nat))
theorem SlA.keep {m B : Nat} {w w' : World} {A : Option Addr} {X : List (List Nat)} (h : SlA m B w A X) (hk : ∀ p : Addr, p.block < B → w'.cell? p = w.cell? p) : SlA m B w' A X := fun hn => by
  obtain ⟨b, o, e, hb, hc⟩ := h hn
  exact ⟨b, o, e, hb, fun i hi k hkm => (hk _ hb).trans (hc i hi k hkm)⟩
theorem SlA.below {m B C : Nat} {w w' : World} {A : Option Addr} {X : List (List Nat)} (h : SlA m B w A X) (hb : Below C w w') (hC : B ≤ C) : SlA m B w' A X := h.keep fun _ hp => hb.cell (by omega)
theorem SlA.more {m B B' : Nat} {w : World} {A : Option Addr} {X : List (List Nat)} (h : SlA m B w A X) (hB : B ≤ B') : SlA m B' w A X := fun hn => by
  obtain ⟨b, o, e, hb, hc⟩ := h hn
  exact ⟨b, o, e, by omega, hc⟩
theorem SlA.upB {m : Nat} {w w' : World} {A : Option Addr} {X : List (List Nat)} (h : SlA m w.heap.size w A X) (hb : Below w.heap.size w w') : SlA m w'.heap.size w' A X := (h.below hb (Nat.le_refl _)).more hb.size
/-- The numbers are bytes. -/
def Bytes (X : List (List Nat)) : Prop := ∀ t ∈ X, ∀ k, t.getD k 0 < 256

/-- The first n values of a row of numbers. -/
def rowN (n : Nat) (t : List Nat) : RL.R := (List.range n).map fun k => valN (t.getD k 0)
/-- A new slice of no elements in a block of its own. -/
theorem own_empty (w : World) (base : Nat) (e : TypeId) (size : Nat) (hb : base ≤ w.heap.size) : (w.alloc (.cells #[] e)).ownsRow base e size (.slice (some ⟨w.heap.size, 0, none⟩) 0 0) 0 [] :=
  ⟨by simp, .inr ⟨w.heap.size, 0, #[], rfl, hb, Row.new w e [], Nat.le_refl _, by simp [maxLen], by simp, by simp⟩⟩

end Go.Proofs.YthgaflmldbgbnaaDoor
end

section
/- A trie that is being built: its levels in memory; append of a value or of a number at a step of a drawn region. -/
namespace Go.Proofs.YthgaflmldbgbnaaDoor
open Go.RowKit Go.Sort

theorem intInfo : (Tryd.prog.info? 3).map (fun i => (i.zero, i.size, i.bytes)) = some (some (.int .i64 0), 1, 8) := by kernel_rfl

/-- append of one number. -/
theorem stepI {w : World} {ops : Array Oper} {o : Oper} {a : Act} {K : Act → World → Prop} {Q : Exit → Act → World → Prop} {E : Prop} (hgd : o.guard = none) (s x : Operand)
    (ho : o.op = .call { callee := .builtin .append, args := #[s, x], argTypes := #[27, 27] })
    (base : Nat) (v : Value) (l : List Nat) (hs : a.eval s = v) (hown : w.ownsRow base 3 1 v l.length (l.map fun z : Nat => Value.int .i64 (z : Int)))
    (gt : Nat) (z : Nat) (hx : a.eval x = .slice (some ⟨gt, 0, none⟩) 1 1) (hg : Row w gt 3 [.int .i64 (z : Int)])
    (hn : l.length ≤ 1000000) (hbase : base ≤ w.heap.size)
    (h : ∀ g cap w', w'.ownsRow base 3 1 (.slice (some ⟨g, 0, none⟩) (l.length + 1) cap) (l.length + 1) ((l ++ [z]).map fun z : Nat => Value.int .i64 (z : Int)) → w.grownBy w' v.ownBlock → (v.ownBlock = some g ∨ g = w.heap.size) → K (a.put o.dst (.slice (some ⟨g, 0, none⟩) (l.length + 1) cap)) w') :
    if Region.wanted o (yielded ops a.tmps) = true then Oper.wp Tryd.prog o a w K Q else E := by
  obtain ⟨i0, hi0, hz0, hz1, hz2⟩ := info_parts intInfo
  refine step_append_lies w hgd s x 27 ho base 3 i0 _ 1 8 Tryd.underlying27 hi0 hz0 hz1 hz2 rfl (by decide) v l.length _ hs hown ⟨gt, 0, none⟩ 1 1 [.int .i64 (z : Int)] hx rfl ?_ ?_ (by decide) (by simp only [maxLen]; omega) (by omega) hbase w.heap.size rfl ?_
  · intro j u hu
    have := hg.cell j
    rw [hu] at this
    rw [Addr.add_lit, Nat.zero_add]
    exact this
  · intro u hu; simp at hu; subst hu; rfl
  · intro g cap w' k1 k2 k3 _
    refine h g cap w' ?_ k2 k3
    rw [List.map_append]
    exact k1

/-- A block lb of n slices of the call's own, each in a block of its own from B on that Q allows; sp tells what each holds. -/
def OwnAll (B : Nat) (Q : Nat → Prop) (w : World) (lb : Nat) (T : TypeId) (n : Nat) (sp : Nat → TypeId × Nat × Nat × List Value) : Prop :=
  ∃ hs : List Value, Row w lb T hs ∧ hs.length = n ∧ lb < B ∧ B ≤ w.heap.size ∧
    (∀ (i : Nat) (u : Value), hs[i]? = some u → w.ownsRow B (sp i).1 (sp i).2.1 u (sp i).2.2.1 (sp i).2.2.2) ∧
    (∀ (i j : Nat) (u u' : Value) (k : Nat), hs[i]? = some u → hs[j]? = some u' → i ≠ j → u.ownBlock = some k → u'.ownBlock ≠ some k) ∧ (∀ (i : Nat) (u : Value) (k : Nat), hs[i]? = some u → u.ownBlock = some k → Q k)

section
variable {B : Nat} {Q : Nat → Prop} {w w' : World} {lb n : Nat} {T : TypeId} {sp : Nat → TypeId × Nat × Nat × List Value}
theorem OwnAll.up (h : OwnAll B Q w lb T n sp) (hb : Below w.heap.size w w') : OwnAll B Q w' lb T n sp := by
  obtain ⟨hs, h1, h2, h3, h3', h4, h5, h6⟩ := h
  exact ⟨hs, h1.up hb, h2, h3, Nat.le_trans h3' hb.size, fun i u hu => own_keep (h4 i u hu) hb, h5, h6⟩
theorem OwnAll.weak {Q' : Nat → Prop} (h : OwnAll B Q w lb T n sp) (hQ : ∀ k, k < w.heap.size → Q k → Q' k) : OwnAll B Q' w lb T n sp := by
  obtain ⟨hs, h1, h2, h3, h3', h4, h5, h6⟩ := h
  exact ⟨hs, h1, h2, h3, h3', h4, h5, fun i u k hu hk => hQ k (own_lt (h4 i u hu) k hk) (h6 i u k hu hk)⟩
theorem OwnAll.lt (h : OwnAll B Q w lb T n sp) : lb < w.heap.size := by obtain ⟨hs, h1, _⟩ := h; exact h1.lt
/-- The slice at a place. -/
theorem OwnAll.at_ (h : OwnAll B Q w lb T n sp) {i : Nat} (hi : i < n) : ∃ u, w.cell? ⟨lb, i, none⟩ = some u ∧ w.ownsRow B (sp i).1 (sp i).2.1 u (sp i).2.2.1 (sp i).2.2.2 ∧ (∀ k, u.ownBlock = some k → Q k) ∧ w.frozen? ⟨lb, i, none⟩ = false := by
  obtain ⟨hs, h1, h2, h3, h3', h4, h5, h6⟩ := h
  have hi' : i < hs.length := by omega
  exact ⟨hs[i], by rw [h1.cell, List.getElem?_eq_getElem hi'], h4 i _ (List.getElem?_eq_getElem hi'), fun k hk => h6 i _ k (List.getElem?_eq_getElem hi') hk, h1.frozen i⟩
/-- One slice was appended to, and its new header is stored. -/
theorem OwnAll.put (h : OwnAll B Q w lb T n sp) {i : Nat} {v : Value} (hv : w.cell? ⟨lb, i, none⟩ = some v) {sp' : Nat → TypeId × Nat × Nat × List Value} (hsp : ∀ j, j ≠ i → sp' j = sp j) {u : Value} {w2 : World}
    (hown : w2.ownsRow B (sp' i).1 (sp' i).2.1 u (sp' i).2.2.1 (sp' i).2.2.2) (hg : w.grownBy w2 v.ownBlock) (hat : ∀ k, u.ownBlock = some k → v.ownBlock = some k ∨ w.heap.size ≤ k) (hQ : ∀ k, u.ownBlock = some k → Q k) : OwnAll B Q (w2.setCell ⟨lb, i, none⟩ u) lb T n sp' := by
  obtain ⟨hs, h1, h2, h3, h3', h4, h5, h6⟩ := h
  rw [h1.cell] at hv
  have hi : i < hs.length := (List.getElem?_eq_some_iff.1 hv).1
  have hvB : ∀ k, v.ownBlock = some k → B ≤ k := fun k hk => own_base (h4 i v hv) hk
  have hlb : some lb ≠ v.ownBlock := fun e => by have := hvB lb e.symm; omega
  have hr2 := h1.grown hg hlb
  refine ⟨hs.set i u, hr2.set i u, by simpa using h2, h3, ?_, fun j u' hu' => ?_, fun a b ua ub k ha hb hne hk => ?_, fun j u' k hu' hk => ?_⟩
  · have := hg.size; simpa using Nat.le_trans h3' this
  · by_cases e : j = i
    · subst e
      rw [List.getElem?_set_self hi] at hu'
      injection hu' with hu'
      subst hu'
      exact own_far hown (p := ⟨lb, j, none⟩) (fun e => by have := own_base hown e; simp only at this; omega) _
    · rw [List.getElem?_set_ne (fun e' => e e'.symm)] at hu'
      rw [hsp j e]
      have ho := h4 j u' hu'
      refine own_far (own_grown ho hg (fun k hk e' => ?_)) (p := ⟨lb, i, none⟩) (fun e' => by have := own_base ho e'; simp only at this; omega) _
      exact h5 j i u' v k hu' hv e hk e'.symm
  · have key : ∀ (a b : Nat) (ub : Value), a = i → b ≠ i → (hs.set i u)[b]? = some ub → u.ownBlock = some k → ub.ownBlock ≠ some k := fun a b ub ha hb hub hk e => by
      rw [List.getElem?_set_ne (fun e' => hb e'.symm)] at hub
      rcases hat k hk with h | h
      · exact h5 b i ub v k hub hv hb e h
      · have := own_lt (h4 b ub hub) k e
        omega
    by_cases e1 : a = i
    · subst e1
      rw [List.getElem?_set_self hi] at ha
      injection ha with ha
      subst ha
      exact key a b ub rfl (fun e => hne e.symm) hb hk
    · by_cases e2 : b = i
      · subst e2
        rw [List.getElem?_set_self hi] at hb
        injection hb with hb
        subst hb
        intro e
        exact key b a ua rfl e1 ha e hk
      · rw [List.getElem?_set_ne (fun e' => e1 e'.symm)] at ha
        rw [List.getElem?_set_ne (fun e' => e2 e'.symm)] at hb
        exact h5 a b ua ub k ha hb hne hk
  · by_cases e : j = i
    · subst e
      rw [List.getElem?_set_self hi] at hu'
      injection hu' with hu'
      subst hu'
      exact hQ k hk
    · rw [List.getElem?_set_ne (fun e' => e e'.symm)] at hu'
      exact h6 j u' k hu' hk
end

end Go.Proofs.YthgaflmldbgbnaaDoor
end

section
/- Drawn regions that end in one operation that waits for all others (a store): what the loads need is asked behind every operation but that last one. -/
namespace Go.Proofs.YthgaflmldbgbnaaDoor
open Go.RowKit Go.Sort

section
variable {P : Program} {ops : Array Oper} {Q : Exit → Act → World → Prop} {md : Region.Mode} {S : World → Prop} {z : Nat}

/-- Whatever order is picked from here on; S holds behind every operation but number z. -/
def wpAnyZ (P : Program) (md : Region.Mode) (ops : Array Oper) (Q : Exit → Act → World → Prop) (S : World → Prop) (z : Nat) : Nat → Array Bool → Act → World → Prop
  | 0, listed, a, w => Region.ready md ops listed = [] ∧ Q .normal a w
  | fuel + 1, listed, a, w =>
    (Region.ready md ops listed = [] → Q .normal a w) ∧
    ∀ i ∈ Region.ready md ops listed, wpOp P ops Q i (fun a' w' => (i ≠ z → S w') ∧ wpAnyZ P md ops Q S z fuel (listed.setIfInBounds i true) a' w') a w

theorem wpAny_of_Z : ∀ (fuel : Nat) (listed : Array Bool) (a : Act) (w : World), wpAnyZ P md ops Q S z fuel listed a w → wpAny P md ops Q fuel listed a w
  | 0, _, _, _, h => h
  | fuel + 1, _, _, _, h => ⟨h.1, fun i hi => wpOp_mono (fun a' w' h' => wpAny_of_Z fuel _ a' w' h'.2) (h.2 i hi)⟩

/-- Those that an operation waits for. -/
def preds (md : Region.Mode) (ops : Array Oper) (k : Nat) : List Nat :=
  match ops[k]? with
  | some o => (o.after.toList.filter (Region.binds md)).map (·.on)
  | none => []
/-- Those that it waits for through others. -/
def reach (md : Region.Mode) (ops : Array Oper) (z : Nat) : Nat → List Nat
  | 0 => preds md ops z
  | n + 1 => reach md ops z n ++ (reach md ops z n).flatMap (preds md ops)
/-- Number z waits for all others. -/
def lastB (md : Region.Mode) (ops : Array Oper) (z : Nat) : Bool := (List.range ops.size).all fun i => i == z || (reach md ops z 1).contains i
/-- What has come up had all that it waits for before it. -/
def Cl (md : Region.Mode) (ops : Array Oper) (listed : Array Bool) : Prop := ∀ k, listed.getD k false = true → ∀ j ∈ preds md ops k, listed.getD j false = true
def clB (md : Region.Mode) (ops : Array Oper) (listed : Array Bool) : Bool := (List.range listed.size).all fun k => !(listed.getD k false) || (preds md ops k).all fun j => listed.getD j false
theorem Cl.of {listed : Array Bool} (h : clB md ops listed = true) : Cl md ops listed := fun k hk j hj => by
  unfold clB at h
  simp only [List.all_eq_true, List.mem_range] at h
  have hsz : k < listed.size := by
    rcases Nat.lt_or_ge k listed.size with h' | h'
    · exact h'
    · simp [Array.getElem?_eq_none h'] at hk
  have h1 := h k hsz
  rw [hk] at h1
  simp only [Bool.not_true, Bool.false_or, List.all_eq_true] at h1
  exact h1 j hj
theorem ready_preds {listed : Array Bool} {j : Nat} (hr : j ∈ Region.ready md ops listed) : ∀ i ∈ preds md ops j, listed.getD i false = true := fun i hi => by
  obtain ⟨_, o, ho, hall⟩ := mem_ready.1 hr
  unfold preds at hi
  rw [ho] at hi
  simp only [List.mem_map, List.mem_filter, Array.mem_toList_iff] at hi
  obtain ⟨e, ⟨he, hb⟩, rfl⟩ := hi
  exact hall e he hb
theorem Cl.step {listed : Array Bool} {j : Nat} (h : Cl md ops listed) (hr : j ∈ Region.ready md ops listed) : Cl md ops (listed.setIfInBounds j true) := fun k hk i hi => by
  by_cases e : j = k
  · subst e; exact getD_set_true (ready_preds hr i hi)
  · rw [getD_set_ne false e] at hk
    exact getD_set_true (h k hk i hi)
theorem reach_listed {listed : Array Bool} (hc : Cl md ops listed) (hr : z ∈ Region.ready md ops listed) : ∀ n, ∀ i ∈ reach md ops z n, listed.getD i false = true
  | 0, i, hi => ready_preds hr i hi
  | n + 1, i, hi => by
    unfold reach at hi
    rw [List.mem_append, List.mem_flatMap] at hi
    rcases hi with hi | ⟨k, hk, hi⟩
    · exact reach_listed hc hr n i hi
    · exact hc k (reach_listed hc hr n k hk) i hi
theorem last_alone (hz : lastB md ops z = true) {listed : Array Bool} (hc : Cl md ops listed) {i : Nat} (hr : z ∈ Region.ready md ops listed) (hi : i ∈ Region.ready md ops listed) : i = z := by
  obtain ⟨hun, oi, hoi, _⟩ := mem_ready.1 hi
  unfold lastB at hz
  simp only [List.all_eq_true, List.mem_range] at hz
  have hsz : i < ops.size := by
    rcases Nat.lt_or_ge i ops.size with h | h
    · exact h
    · rw [Array.getElem?_eq_none h] at hoi; cases hoi
  have h1 := hz i hsz
  rw [Bool.or_eq_true] at h1
  rcases h1 with h1 | h1
  · simpa using h1
  · have h3 := reach_listed hc hr 1 i (by simpa using h1)
    rcases Nat.lt_or_ge i listed.size with h | h
    · simp [h] at hun h3
      rw [hun] at h3
      cases h3
    · simp [Array.getElem?_eq_none h] at h3

/-- An operation that may come up and yields its value in every world that meets S may be taken first. -/
theorem wpAnyZ_first (hz : lastB md ops z = true) {i : Nat} {oi : Oper} {v : Value} (hiz : i ≠ z) (hi : ops[i]? = some oi) (hsel : ∀ (j : Nat) (o : Oper) cs b, ops[j]? = some o → o.op ≠ .select cs b)
    (hQ : ∀ c a w, Q (.panic c) (a.put oi.dst v) w → Q (.panic c) a w) :
    ∀ (fuel : Nat) (listed : Array Bool) (a : Act) (w : World), Cl md ops listed →
      (∀ j oj, ops[j]? = some oj → j ≠ i → listed.getD j true = false → (∀ e ∈ oj.after, Region.binds md e = true → e.on ≠ i) → oi.apart ops oj = true) →
      i ∈ Region.ready md ops listed → YieldsIf P ops S oi v a → S w →
      wpAnyZ P md ops Q S z fuel (listed.setIfInBounds i true) (a.put oi.dst v) w → wpAnyZ P md ops Q S z (fuel + 1) listed a w
  | 0, listed, a, w, _, _, hr, hy, hS, H => by
    refine ⟨fun h => (by rw [h] at hr; cases hr), fun j hj => ?_⟩
    by_cases hji : j = i
    · subst hji; exact hy.wpOp hi hS ⟨fun _ => hS, H⟩
    · have := ready_mono hj hji
      rw [H.1] at this
      cases this
  | fuel + 1, listed, a, w, hc, hfree, hr, hy, hS, H => by
    refine ⟨fun h => (by rw [h] at hr; cases hr), fun j hj => ?_⟩
    by_cases hji : j = i
    · subst hji; exact hy.wpOp hi hS ⟨fun _ => hS, H⟩
    · have hjz : j ≠ z := fun e => by subst e; exact hiz (last_alone hz hc hj hr)
      have h1 := H.2 j (ready_mono hj hji)
      obtain ⟨hjun, oj, hoj, hall⟩ := mem_ready.1 hj
      have hnot : ∀ e ∈ oj.after, Region.binds md e = true → e.on ≠ i := fun e he hb heq => by
        have h2 := hall e he hb
        have h0 := (mem_ready.1 hr).1
        rw [heq] at h2
        rcases Nat.lt_or_ge i listed.size with h' | h'
        · simp [h'] at h0 h2; rw [h0] at h2; cases h2
        · simp [Array.getElem?_eq_none h'] at h2
      have h2 := wpOp_putIf hoj (hfree j oj hoj hji hjun hnot) (fun cs b => hsel i oi cs b hi) (fun cs b => hsel j oj cs b hoj) hQ hy h1
      refine wpOp_mono (fun a' w' h3 => ⟨h3.2.1, wpAnyZ_first hz hiz hi hsel hQ fuel (listed.setIfInBounds j true) a' w' (hc.step hj) (fun k ok hk hki hun hno => ?_) (ready_mono hr (Ne.symm hji)) h3.1 (h3.2.1 hjz) ?_⟩) h2
      · refine hfree k ok hk hki ?_ hno
        by_cases hjk : j = k
        · subst hjk; exact hjun
        · rw [getD_set_ne true hjk] at hun; exact hun
      · rw [Array.setIfInBounds_comm _ _ hji]
        exact h3.2.2

/-- Take number i first. -/
theorem takeZ {i : Nat} {oi : Oper} {v : Value} {fuel : Nat} {listed : Array Bool} {a : Act} {w : World} (d : Option Tmp) (hi : ops[i]? = some oi) (hd : oi.dst = d)
    (hz : lastB md ops z = true) (hiz : i ≠ z) (hcl : clB md ops listed = true) (hs : Region.noSelect ops = true) (hf : Region.free md ops listed i = true) (hr : (Region.ready md ops listed).contains i = true)
    (hQ : ∀ c a w, Q (.panic c) (a.put d v) w → Q (.panic c) a w) (hy : YieldsIf P ops S oi v a) (hS : S w)
    (h : wpAnyZ P md ops Q S z fuel (listed.setIfInBounds i true) (a.put d v) w) : wpAnyZ P md ops Q S z (fuel + 1) listed a w := by
  subst hd
  exact wpAnyZ_first hz hiz hi (Region.noSelect_spec hs) hQ fuel listed a w (Cl.of hcl) (Region.free_spec hi hf) (by simpa using hr) hy hS h
/-- Number i alone may come up. -/
theorem oneZ {i : Nat} {o : Oper} {fuel : Nat} {listed : Array Bool} {a : Act} {w : World} (hr : Region.ready md ops listed = [i]) (ho : ops[i]? = some o) (hiz : i ≠ z)
    (h : ∀ K' : Act → World → Prop, Shut (∀ a w, S w → (S w → wpAnyZ P md ops Q S z fuel (listed.setIfInBounds i true) a w) → K' a w) → if Region.wanted o (yielded ops a.tmps) = true then Oper.wp P o a w K' Q else K' (a.put o.dst undef) w) :
    wpAnyZ P md ops Q S z (fuel + 1) listed a w := by
  refine ⟨(fun h0 => by rw [hr] at h0; cases h0), fun j hj => ?_⟩
  rw [hr] at hj
  obtain rfl : j = i := by simpa using hj
  exact wpOp_step ho (fun K' hK => h K' (fun a w hS hW => hK a w ⟨fun _ => hS, hW hS⟩))
/-- The last one: nothing is asked behind it but what follows the region. -/
theorem lastZ {o : Oper} {fuel : Nat} {listed : Array Bool} {a : Act} {w : World} (hr : Region.ready md ops listed = [z]) (ho : ops[z]? = some o) (hd : Region.ready md ops (listed.setIfInBounds z true) = [])
    (h : ∀ K' : Act → World → Prop, Shut (∀ a w, Q .normal a w → K' a w) → if Region.wanted o (yielded ops a.tmps) = true then Oper.wp P o a w K' Q else K' (a.put o.dst undef) w) :
    wpAnyZ P md ops Q S z (fuel + 1) listed a w := by
  refine ⟨(fun h0 => by rw [hr] at h0; cases h0), fun j hj => ?_⟩
  rw [hr] at hj
  obtain rfl : j = z := by simpa using hj
  refine wpOp_step ho (fun K' hK => h K' (fun a w hQ => hK a w ⟨fun h => absurd rfl h, ?_⟩))
  cases fuel with
  | zero => exact ⟨hd, hQ⟩
  | succ fuel => exact ⟨fun _ => hQ, by rw [hd]; simp⟩
/-- The beginning. -/
theorem regionZ {id : Nat} {a : Act} {w : World} (z : Nat) (hm : P.follows .mixedOrders = true) (hS : S w.drew)
    (h : S w.drew → wpAnyZ P .any ops Q S z ops.size (Array.replicate ops.size false) a w.drew) : (Code.region id ops true).wp P Q a w :=
  wp_region_any hm (wpAny_of_Z _ _ _ _ (h hS))
end

end Go.Proofs.YthgaflmldbgbnaaDoor
end

section
/- Walk: trie.add. -/
namespace Go.Proofs.YthgaflmldbgbnaaDoor
open Go.RowKit Go.Sort

/-- Below block B nothing turns but block lb. -/
def KeepX (B lb : Nat) (w w' : World) : Prop := w'.os = w.os ∧ w'.tape = w.tape ∧ w'.output = w.output ∧ w.heap.size ≤ w'.heap.size ∧ ∀ b, b < B → b ≠ lb → w'.heap[b]? = w.heap[b]?
theorem KeepX.refl (B lb : Nat) (w : World) : KeepX B lb w w := ⟨rfl, rfl, rfl, Nat.le_refl _, fun _ _ _ => rfl⟩
theorem KeepX.trans {B lb : Nat} {a b c : World} (h : KeepX B lb a b) (k : KeepX B lb b c) : KeepX B lb a c :=
  ⟨k.1.trans h.1, k.2.1.trans h.2.1, k.2.2.1.trans h.2.2.1, Nat.le_trans h.2.2.2.1 k.2.2.2.1, fun x hx hn => (k.2.2.2.2 x hx hn).trans (h.2.2.2.2 x hx hn)⟩
theorem KeepX.below {B lb C : Nat} {a b : World} (h : Below C a b) (hB : B ≤ C) : KeepX B lb a b := ⟨h.os, h.tape, h.output, h.size, fun x hx _ => h.block x (by omega)⟩
theorem KeepX.grown {B lb : Nat} {a b : World} {row : Option Nat} (h : a.grownBy b row) (hB : B ≤ a.heap.size) (hr : ∀ k, row = some k → B ≤ k) : KeepX B lb a b := ⟨h.os, h.tape, h.output, h.size, fun x hx _ => h.block x (by omega) (fun e => by have := hr x e.symm; omega)⟩
theorem KeepX.set {B lb : Nat} (w : World) (o : Nat) (u : Value) : KeepX B lb w (w.setCell ⟨lb, o, none⟩ u) := ⟨rfl, rfl, rfl, by simp, fun x _ hn => Below.heap_setCell w ⟨lb, o, none⟩ u x hn⟩
theorem KeepX.cell {B lb : Nat} {w w' : World} (h : KeepX B lb w w') {p : Addr} (hp : p.block < B) (hn : p.block ≠ lb) : w'.cell? p = w.cell? p := World.cell?_of_block (h.2.2.2.2 p.block hp hn)

end Go.Proofs.YthgaflmldbgbnaaDoor
end

section
/- Walk: relation.Project. -/
namespace Go.Proofs.YthgaflmldbgbnaaDoor
open Go.RowKit Go.Sort

theorem MadeRs.hb {w : World} {g B : Nat} {E : TypeId} {X : List RL.R} (h : MadeRs w g E X X.length B) (hok : RsOk X) :
    ∃ d : Array (El w g), d.size = X.length ∧ X = d.toList.map El.row ∧ HB w w g 0 d := by
  obtain ⟨hs, h1, h2, h3, h4⟩ := h
  have pick : ∀ i (hi : i < X.length), ∃ e : El w g, hs[i]? = some e.val ∧ e.row = X[i] := fun i hi => by
    obtain ⟨A', C', g1, g2, g3, g4, g5⟩ := h4 i hi hi
    exact ⟨⟨.slice A' X[i].length C', X[i], A', C', rfl, g2, g3, g4, hok.at_ hi, fun hy ad e => (g5 hy ad e).1⟩, g1, rfl⟩
  obtain ⟨F, hF⟩ : ∃ F : Nat → El w g, ∀ i (hi : i < X.length), hs[i]? = some (F i).val ∧ (F i).row = X[i] :=
    ⟨fun i => if hi : i < X.length then (pick i hi).choose else default, fun i hi => by simp only [hi, dif_pos]; exact (pick i hi).choose_spec⟩
  refine ⟨((List.range X.length).map F).toArray, by simp, ?_, ⟨⟨rfl, rfl, rfl, Nat.le_refl _, fun _ _ _ => rfl⟩, fun j hj => ?_, h1.lt⟩⟩
  · apply List.ext_getElem (by simp)
    intro i h3 h4
    simp only [List.getElem_map, List.getElem_range]
    exact (hF i h3).2.symm
  · have hj' : j < X.length := by simpa using hj
    have e : ((List.range X.length).map F).toArray[j]! = F j := by
      rw [getElem!_pos ((List.range X.length).map F).toArray j hj]
      simp
    rw [e, Nat.zero_add]
    exact ⟨by rw [h1.cell]; exact (hF j hj').1, h1.frozen j⟩

/-- All columns exist. -/
def colsOk (n : Int) (cs : List Int) : Bool := cs.all fun c => decide (0 ≤ c) && decide (c < n)

/-- What relation.Project leaves, of at most 32 columns. -/
def ProjPost (w : World) (n : Int) (X : List RL.R) (cs : List Int) (e : Ending) (w' : World) : Prop :=
  (colsOk n cs = false → e = .returned (.tuple #[.agg #[.int .i64 0, .slice none 0 0], .int .i64 3])) ∧ (colsOk n cs = true → ∃ v, e = .returned (.tuple #[v, .int .i64 0]) ∧ RelNew w.heap.size w' cs.length (RL.ofF (X.map (projF · cs))) v) ∧ Below w.heap.size w w'

theorem RsOk.proj {X : List RL.R} (h : RsOk X) {n : Int} {cs : List Int} (hcl : cs.length ≤ 32) (hlen : ∀ x ∈ X, (x.length : Int) = n) (hc : colsOk n cs = true) : RsOk (X.map (projF · cs)) := fun y hy => by
  obtain ⟨x, hx, rfl⟩ := List.mem_map.1 hy
  refine ⟨by simp [projF]; omega, fun v hv => ?_⟩
  obtain ⟨c, hcm, rfl⟩ := List.mem_map.1 hv
  have hok := List.all_eq_true.1 hc c hcm
  simp only [Bool.and_eq_true, decide_eq_true_eq] at hok
  have hl := hlen x hx
  have hlt : c.toNat < x.length := by omega
  have e : x.getD c.toNat zV = x[c.toNat] := by simp [List.getD, hlt]
  rw [e]
  exact (h x hx).2 _ (List.getElem_mem hlt)

set_option maxHeartbeats 2000000 in
set_option maxRecDepth 100000 in
theorem rlProject_any (n : Int) (RA CA : Option Addr) (RC CC : Nat) (X : List RL.R) (cs : List Int) (w : World) (hX : SlRs w.heap.size w RA X) (hcs : SlI .i64 w.heap.size w CA cs) (hXo : RsOk X) (hXl : X.length ≤ 60000) (hcl : cs.length ≤ 32) (hlen : ∀ x ∈ X, (x.length : Int) = n) :
    Calls Tryd.prog 51 #[.agg #[.int .i64 n, .slice RA X.length RC], .slice CA cs.length CC] w (ProjPost w n X cs) := by
  have HX := Lib.hid hX
  have HCS := Lib.hid hcs
  have HXO := Lib.hid hXo
  have HLEN := Lib.hid hlen
  have hmk := makeRows X.length (by omega)
  have HMK := Lib.hid hmk
  clear hX hcs hXo hlen hmk
  go_enter Tryd.func51, Tryd.ntmps51
  have h32 : decide (32 < (cs.length : Int)) = false := by simp; omega
  have q1 := (Row.new w 35 [.int .i64 n, .slice RA X.length RC]).alloc (.cells #[.int .i64 0, .slice none 0 0] 35)
  have q2 := Row.new (w.alloc (.cells #[.int .i64 n, .slice RA X.length RC] 35)) 35 [.int .i64 0, .slice none 0 0]
  simp only [World.size_alloc] at q2
  have HQ1 := Lib.hid q1
  have HQ2 := Lib.hid q2
  have HE0 := Lib.hid (((Ext.refl w).alloc (.cells #[.int .i64 n, .slice RA X.length RC] 35)).alloc (.cells #[.int .i64 0, .slice none 0 0] 35))
  clear q1 q2
  go_wp2
  generalize (w.alloc (.cells #[.int .i64 n, .slice RA X.length RC] 35)).alloc (.cells #[.int .i64 0, .slice none 0 0] 35) = W0 at *
  have hz0 := HQ2.out.lt
  go_loopw [15] (fun i wr => ∃ k m : Nat, k ≤ cs.length ∧ i = .int .i64 k ∧ colsOk n (cs.take k) = true ∧ wr = W0.drewN m) (fun i _ => cs.length - (intOf i).toNat)
  case atStart => exact ⟨0, 0, Nat.zero_le _, rfl, rfl, rfl⟩
  case round =>
    obtain ⟨k, m, hk, rfl, hco, rfl⟩ := hrel
    have HCO := Lib.hid hco
    clear hco
    by_cases h1 : k < cs.length
    · obtain ⟨b, o, rfl, hb, c1⟩ := slI_at HCS.out h1
      have d1 := (HE0.out.cell hb).trans c1
      have n0 : W0.cell? ⟨w.heap.size, 0, none⟩ = some (.int .i64 n) := HQ1.out.cell 0
      have HT := Lib.hid (List.take_succ_eq_append_getElem h1)
      have HM := Lib.hid (List.getElem_mem h1)
      generalize cs[k] = c at d1 HT HM
      by_cases g1 : c < 0
      · have HF : Hid (colsOk n cs = false) := by
          show _ = _
          unfold colsOk
          rw [List.all_eq_false]
          exact ⟨c, HM.out, by simp; omega⟩
        have r0 : (W0.drewN m).cell? ⟨w.heap.size + 1, 0, none⟩ = some (.int .i64 0) := HQ2.out.cell 0
        have r1 : (W0.drewN m).cell? ⟨w.heap.size + 1, 1, none⟩ = some (.slice none 0 0) := HQ2.out.cell 1
        have f0 : W0.frozen? ⟨w.heap.size + 1, 0, none⟩ = false := HQ2.out.frozen 0
        have f1 : W0.frozen? ⟨w.heap.size + 1, 1, none⟩ = false := HQ2.out.frozen 1
        have r0' : W0.cell? ⟨w.heap.size + 1, 0, none⟩ = some (.int .i64 0) := HQ2.out.cell 0
        have r1' : W0.cell? ⟨w.heap.size + 1, 1, none⟩ = some (.slice none 0 0) := HQ2.out.cell 1
        clear r0 r1 c1
        go_wp2
        go_quiet (fail)
        go_wp2
        refine bodyPost_ret (v := .tuple #[.agg #[.int .i64 0, .slice none 0 0], .int .i64 3]) (by simp [results, Tryd.results51, go_sem, r0', r1']) rfl ⟨fun _ => rfl, (fun h => by rw [HF.out] at h; cases h), ?_⟩
        exact ((Below.drewN' HE0.out.below _).setCell (p := ⟨w.heap.size + 1, 0, none⟩) (show w.heap.size ≤ w.heap.size + 1 by omega) _).setCell (p := ⟨w.heap.size + 1, 1, none⟩) (show w.heap.size ≤ w.heap.size + 1 by omega) _
      · by_cases g2 : n ≤ c
        · have HF : Hid (colsOk n cs = false) := by
            show _ = _
            unfold colsOk
            rw [List.all_eq_false]
            exact ⟨c, HM.out, by simp; omega⟩
          have f0 : W0.frozen? ⟨w.heap.size + 1, 0, none⟩ = false := HQ2.out.frozen 0
          have f1 : W0.frozen? ⟨w.heap.size + 1, 1, none⟩ = false := HQ2.out.frozen 1
          have r0' : W0.cell? ⟨w.heap.size + 1, 0, none⟩ = some (.int .i64 0) := HQ2.out.cell 0
          have r1' : W0.cell? ⟨w.heap.size + 1, 1, none⟩ = some (.slice none 0 0) := HQ2.out.cell 1
          have g1' : decide (c < 0) = false := by simpa using g1
          clear c1
          go_wp2
          go_quiet (fail)
          go_wp2
          refine bodyPost_ret (v := .tuple #[.agg #[.int .i64 0, .slice none 0 0], .int .i64 3]) (by simp [results, Tryd.results51, go_sem, r0', r1']) rfl ⟨fun _ => rfl, (fun h => by rw [HF.out] at h; cases h), ?_⟩
          exact ((Below.drewN' HE0.out.below _).setCell (p := ⟨w.heap.size + 1, 0, none⟩) (show w.heap.size ≤ w.heap.size + 1 by omega) _).setCell (p := ⟨w.heap.size + 1, 1, none⟩) (show w.heap.size ≤ w.heap.size + 1 by omega) _
        · have HCO2 : Hid (colsOk n (cs.take (k + 1)) = true) := by
            show _ = _
            rw [HT.out]
            unfold colsOk
            rw [List.all_append]
            have := HCO.out
            unfold colsOk at this
            rw [this]
            simp; omega
          have g1' : decide (c < 0) = false := by simpa using g1
          have g2' : decide (n ≤ c) = false := by simpa using g2
          clear c1
          go_wp2
          go_quiet (fail)
          go_wp2
          go_roundw
          case rel => exact ⟨k + 1, _, by omega, by go_num, HCO2.out, rfl⟩
          case measure => simp [intOf]; omega
    · have HT := Lib.hid (List.take_of_length_le (show cs.length ≤ k by omega))
      rw [HT.out] at HCO
      have hmk := HMK.out
      have n1 : W0.cell? ⟨w.heap.size, 1, none⟩ = some (.slice RA X.length RC) := HQ1.out.cell 1
      go_wp2
      clear hmk HMK
      have hz1 := HQ1.out.lt
      have HM0 := Lib.hid (MadeRs.start (W0.drewN m) 64 (X.map (projF · cs)))
      have hml : (X.map (projF · cs)).length = X.length := by simp
      rw [hml] at HM0
      have HML := Lib.hid hml
      clear hml n1
      have HQ1' := Lib.hid (((HQ1.out.drewN m).alloc (.cells (zerosA (.slice none 0 0) X.length) 64)))
      have HQ2' := Lib.hid (((HQ2.out.drewN m).alloc (.cells (zerosA (.slice none 0 0) X.length) 64)))
      have HB0 := Lib.hid ((Below.drewN' HE0.out.below m).alloc (show w.heap.size ≤ W0.heap.size by omega) (.cells (zerosA (.slice none 0 0) X.length) 64))
      have HYO := Lib.hid (HXO.out.proj hcl HLEN.out HCO.out)
      have hlo : w.heap.size + 1 < W0.heap.size := hz0
      have HM1 : Hid (MadeRs ((W0.drewN m).alloc (.cells (zerosA (.slice none 0 0) X.length) 64)) W0.heap.size 64 (X.map (projF · cs)) 0 W0.heap.size) := HM0.out
      clear HM0
      go_loopw [40] (fun i wr => ∃ k : Nat, k ≤ X.length ∧ i = .int .i64 k ∧ MadeRs wr W0.heap.size 64 (X.map (projF · cs)) k W0.heap.size ∧ Row wr w.heap.size 35 [.int .i64 n, .slice RA X.length RC] ∧ Row wr (w.heap.size + 1) 35 [.int .i64 0, .slice none 0 0] ∧ Below w.heap.size w wr) (fun i _ => X.length - (intOf i).toNat)
      case atStart => exact ⟨0, Nat.zero_le _, rfl, HM1.out, HQ1'.out, HQ2'.out, HB0.out⟩
      case round =>
        obtain ⟨j, hj, rfl, hM, hr1, hr2, hbel⟩ := hrel
        have HM := Lib.hid hM
        have HR1 := Lib.hid hr1
        have HR2 := Lib.hid hr2
        have HB := Lib.hid hbel
        have hml := hM.lt
        clear hM HM1 HQ1' HQ2' HB0
        by_cases h2 : j < X.length
        · obtain ⟨b, o, A1, C1, rfl, hb, c1, -, -, s1⟩ := slRs_at HX.out h2
          have d1 := (hbel.cell (p := ⟨b, o + j, none⟩) hb).trans c1
          have n1 : wr.cell? ⟨w.heap.size, 1, none⟩ = some (.slice (some ⟨b, o, none⟩) X.length RC) := hr1.cell 1
          have hxl := HLEN.out X[j] (List.getElem_mem h2)
          have HC := Lib.hid (rwProject_ok A1 CA C1 CC X[j] cs wr ((s1.below hbel (Nat.le_refl _)).more hbel.size) ((HCS.out.below hbel (Nat.le_refl _)).more hbel.size) (HXO.out.at_ h2).1 (by omega) (fun c hc => by
            have hok := List.all_eq_true.1 HCO.out c hc
            simp only [Bool.and_eq_true, decide_eq_true_eq] at hok
            omega))
          have hjy : j < (X.map (projF · cs)).length := by rw [HML.out]; exact h2
          have HY : Hid ((X.map (projF · cs))[j] = projF X[j] cs) := by show _ = _; simp
          clear c1 s1 hbel hr1 hr2 hxl
          generalize X[j] = x at d1 HC HY
          go_wp2_with fail
          refine HC.out.mono ?_
          rintro e w4 ⟨rfl, hrow4, hb4⟩
          have hsl4 : SlR w4.heap.size w4 (some ⟨wr.heap.size, 0, none⟩) (projF x cs) := hrow4.sl
          have hpl : (projF x cs).length = cs.length := projF_length x cs
          have HM4 := Lib.hid (HM.out.keep hb4)
          obtain ⟨u, hu⟩ := HM4.out.cell hjy
          have hfz := HM4.out.frozen j
          have hset := HM4.out.set hjy (A' := some ⟨wr.heap.size, 0, none⟩) (C' := cs.length) (by rw [HY.out, hpl]; exact Nat.le_refl _) (by omega) (by rw [HY.out]; exact hsl4) (fun _ ad e => by injection e with e; subst e; exact ⟨by simp only; omega, by simp only; omega, fun o => hrow4.frozen o⟩)
          rw [HY.out, hpl] at hset
          have HSET := Lib.hid hset
          have HR14 := Lib.hid ((HR1.out.below hb4 HR1.out.lt).far (p := ⟨W0.heap.size, j, none⟩) (show w.heap.size ≠ W0.heap.size by omega) (.slice (some ⟨wr.heap.size, 0, none⟩) cs.length cs.length))
          have HR24 := Lib.hid ((HR2.out.below hb4 HR2.out.lt).far (p := ⟨W0.heap.size, j, none⟩) (show w.heap.size + 1 ≠ W0.heap.size by omega) (.slice (some ⟨wr.heap.size, 0, none⟩) cs.length cs.length))
          have HB4 := Lib.hid ((Below.then HB.out hb4 HB.out.size).setCell (p := ⟨W0.heap.size, j, none⟩) (show w.heap.size ≤ W0.heap.size by omega) (.slice (some ⟨wr.heap.size, 0, none⟩) cs.length cs.length))
          have hz4 := hb4.size
          clear hset hrow4 hb4 hsl4 hpl HC d1 n1
          go_wp2
          go_roundw
          case rel => exact ⟨j + 1, by omega, by go_num, HSET.out, HR14.out, HR24.out, HB4.out⟩
          case measure => simp [intOf]; omega
        · obtain rfl : j = X.length := by omega
          by_cases hnil : X = []
          · subst hnil
            simp only [List.length_nil, List.map_nil] at *
            go_wp2_with fail
            refine (rlBuild_nil (cs.length : Int) (some ⟨W0.heap.size, 0, none⟩) 0 _).mono ?_
            rintro e w5 ⟨rfl, hx5⟩
            have r5 := HR2.out.below hx5.below HR2.out.lt
            have c0 : w5.cell? ⟨w.heap.size + 1, 0, none⟩ = some (.int .i64 0) := r5.cell 0
            have c1 : w5.cell? ⟨w.heap.size + 1, 1, none⟩ = some (.slice none 0 0) := r5.cell 1
            have f0 := r5.frozen 0
            have f1 := r5.frozen 1
            have hz5 := r5.lt
            have HB5 := Lib.hid (Below.then HB.out hx5.below HB.out.size)
            have z0 : (w5.setCell ⟨w.heap.size + 1, 0, none⟩ (.int .i64 cs.length)).cell? ⟨w.heap.size + 1, 0, none⟩ = some (.int .i64 cs.length) := World.cell?_setCell_same _ _ _ c0
            have z1 : ((w5.setCell ⟨w.heap.size + 1, 0, none⟩ (.int .i64 cs.length)).setCell ⟨w.heap.size + 1, 1, none⟩ (.slice (some ⟨W0.heap.size, 0, none⟩) 0 0)).cell? ⟨w.heap.size + 1, 1, none⟩ = some (.slice (some ⟨W0.heap.size, 0, none⟩) 0 0) := World.cell?_setCell_same _ _ _ ((World.cell?_setCell_other _ _ _ _ (by simp)).trans c1)
            have Z0 := Lib.hid z0
            have Z1 := Lib.hid z1
            clear r5 hx5 z0 z1 hr1 hr2
            go_wp2
            refine bodyPost_ret (v := .tuple #[.agg #[.int .i64 cs.length, .slice (some ⟨W0.heap.size, 0, none⟩) 0 0], .int .i64 0]) (by simp [results, Tryd.results51, go_sem, Z0.out, Z1.out]) rfl ⟨(fun h => by rw [HCO.out] at h; cases h), ?_, ?_⟩
            · intro _
              exact ⟨_, rfl, _, 0, rfl, by simp [RL.ofF], by omega, FreshRs.nil⟩
            · exact (HB5.out.setCell (p := ⟨w.heap.size + 1, 0, none⟩) (show w.heap.size ≤ w.heap.size + 1 by omega) _).setCell (p := ⟨w.heap.size + 1, 1, none⟩) (show w.heap.size ≤ w.heap.size + 1 by omega) _
          · have hpos : 1 ≤ X.length := by cases X with | nil => exact absurd rfl hnil | cons _ _ => simp
            have hM2 : MadeRs wr W0.heap.size 64 (X.map (projF · cs)) (X.map (projF · cs)).length W0.heap.size := by rw [HML.out]; exact HM.out
            obtain ⟨d, hds, hrows, hHB⟩ := hM2.hb HYO.out
            rw [HML.out] at hds
            have HBU := Lib.hid (rlBuild_any (cs.length : Int) X.length hHB (by omega) (by omega) (by omega) (by omega) _ hrows)
            rw [hds] at HBU
            have hofl := RL.ofF_length_le (X.map (projF · cs))
            rw [HML.out] at hofl
            clear hHB hrows hds hnil hM2 hr1 hr2
            obtain ⟨Y, hY⟩ : ∃ Y, Y = RL.ofF (X.map (projF · cs)) := ⟨_, rfl⟩
            rw [← hY] at HBU hofl
            have HYE := Lib.hid hY
            clear hY
            go_wp2_with fail
            refine HBU.out.mono ?_
            rintro e w5 ⟨rfl, hs5, hg5⟩
            have hne : w.heap.size + 1 ≠ W0.heap.size := by omega
            have r5 := HR2.out.grown hg5 (fun e => hne (by injection e))
            have c0 : w5.cell? ⟨w.heap.size + 1, 0, none⟩ = some (.int .i64 0) := r5.cell 0
            have c1 : w5.cell? ⟨w.heap.size + 1, 1, none⟩ = some (.slice none 0 0) := r5.cell 1
            have f0 := r5.frozen 0
            have f1 := r5.frozen 1
            have hz5 := r5.lt
            have h2z := HR2.out.lt
            have HB5 := Lib.hid (HB.out.grown hg5 (by omega) (fun k hk => by injection hk with hk; omega))
            have z0 : (w5.setCell ⟨w.heap.size + 1, 0, none⟩ (.int .i64 cs.length)).cell? ⟨w.heap.size + 1, 0, none⟩ = some (.int .i64 cs.length) := World.cell?_setCell_same _ _ _ c0
            have z1 : ((w5.setCell ⟨w.heap.size + 1, 0, none⟩ (.int .i64 cs.length)).setCell ⟨w.heap.size + 1, 1, none⟩ (.slice (some ⟨W0.heap.size, 0, none⟩) Y.length X.length)).cell? ⟨w.heap.size + 1, 1, none⟩ = some (.slice (some ⟨W0.heap.size, 0, none⟩) Y.length X.length) := World.cell?_setCell_same _ _ _ ((World.cell?_setCell_other _ _ _ _ (by simp)).trans c1)
            have Z0 := Lib.hid z0
            have Z1 := Lib.hid z1
            have HSL : Hid (FreshRs w.heap.size ((w5.setCell ⟨w.heap.size + 1, 0, none⟩ (.int .i64 cs.length)).setCell ⟨w.heap.size + 1, 1, none⟩ (.slice (some ⟨W0.heap.size, 0, none⟩) Y.length X.length)) (some ⟨W0.heap.size, 0, none⟩) Y) := fun w'' hk => by
              have h := hs5 w'' (fun p hpl hp => by
                have hpn : p.block ≠ w.heap.size + 1 := by rcases hp with hp | hp <;> omega
                rw [hk p (by rcases hp with hp | hp <;> omega) (by simpa using hpl)]
                exact (far_cell (p := ⟨w.heap.size + 1, 1, none⟩) (fun e => hpn e.symm) (far_cell (p := ⟨w.heap.size + 1, 0, none⟩) (fun e => hpn e.symm) rfl)))
              simpa using h
            clear r5 hs5 hg5 z0 z1
            go_wp2
            refine bodyPost_ret (v := .tuple #[.agg #[.int .i64 cs.length, .slice (some ⟨W0.heap.size, 0, none⟩) Y.length X.length], .int .i64 0]) (by simp [results, Tryd.results51, go_sem, Z0.out, Z1.out]) rfl ⟨(fun h => by rw [HCO.out] at h; cases h), ?_, ?_⟩
            · intro _
              rw [← HYE.out]
              exact ⟨_, rfl, _, X.length, rfl, by omega, by omega, HSL.out⟩
            · exact (HB5.out.setCell (p := ⟨w.heap.size + 1, 0, none⟩) (show w.heap.size ≤ w.heap.size + 1 by omega) _).setCell (p := ⟨w.heap.size + 1, 1, none⟩) (show w.heap.size ≤ w.heap.size + 1 by omega) _

end Go.Proofs.YthgaflmldbgbnaaDoor
end

section
/- Words for trie.New: the error of a list of columns, an empty trie, slices.Contains. -/
namespace Go.Proofs.YthgaflmldbgbnaaDoor
open Go.RowKit Go.Sort

/-- The error at column number i, or 0. -/
def colErr (n : Int) (cs : List Int) (i : Nat) : Int := if cs.getD i 0 < 0 ∨ n ≤ cs.getD i 0 then 3 else if cs.getD i 0 ∈ cs.take i then 8 else 0
/-- The first error of the columns, or 0. -/
def newErr (n : Int) (cs : List Int) : Int := (((List.range cs.length).map (colErr n cs)).find? fun e => e != 0).getD 0
section
variable {d : Nat} {P : List RL.R} (hS : RL.SS P) (hd : ∀ r ∈ P, r.length = d)
include hS hd
end
end Go.Proofs.YthgaflmldbgbnaaDoor
end

section
/- Walk: trie.New. -/
namespace Go.Proofs.YthgaflmldbgbnaaDoor
open Go.RowKit Go.Sort

/-- What trie.New leaves. -/
def NewPost (w : World) (n : Int) (X : List RL.R) (cs : List Int) (e : Ending) (w' : World) : Prop :=
  (newErr n cs ≠ 0 → e = .returned (.tuple #[.agg #[.slice none 0 0], .int .i64 (newErr n cs)])) ∧ (newErr n cs = 0 → ∃ LA C, e = .returned (.tuple #[.agg #[.slice LA cs.length C], .int .i64 0]) ∧ TrK w.heap.size w' LA cs.length (vsF cs.length (RL.ofF (X.map (projF · cs)))) (fsF cs.length (RL.ofF (X.map (projF · cs))))) ∧ Below w.heap.size w w'
theorem NewPost.bad {w : World} {n : Int} {X : List RL.R} {cs : List Int} {e : Ending} {w' : World} {q : Int} (hq : newErr n cs = q) (hne : q ≠ 0) (he : e = .returned (.tuple #[.agg #[.slice none 0 0], .int .i64 q])) (hb : Below w.heap.size w w') : NewPost w n X cs e w' :=
  ⟨fun _ => by rw [hq]; exact he, fun h0 => absurd (hq.symm.trans h0) hne, hb⟩

end Go.Proofs.YthgaflmldbgbnaaDoor
end

section
/- Walk: made of chapter 34's laws. -/
namespace Go.Proofs.YthgaflmldbgbnaaDoor
open Go.RowKit Go.Sort

/-- The rows of the projection. -/
def projRows (ar : Nat) (X : List (List Nat)) (cs : List Int) : List RL.R := RL.ofF ((X.map (rowN (ar % 4))).map (projF · cs))
/-- What made leaves. -/
def MadePost (w : World) (ar : Nat) (X : List (List Nat)) (cs : List Int) (e : Ending) (w' : World) : Prop :=
  (newErr (ar % 4 : Nat) cs ≠ 0 → e = .returned (.tuple #[.agg #[.slice none 0 0], .slice none 0 0, .bool false])) ∧
  (newErr (ar % 4 : Nat) cs = 0 → ∃ LA C VA VC, e = .returned (.tuple #[.agg #[.slice LA cs.length C], .slice VA (projRows ar X cs).length VC, .bool true]) ∧ (projRows ar X cs).length ≤ VC ∧ VC ≤ 9223372036854775807 ∧ TrM w'.heap.size w' LA cs.length (vsF cs.length (projRows ar X cs)) (fsF cs.length (projRows ar X cs)) ∧ SlRs w'.heap.size w' VA (projRows ar X cs)) ∧ Below w.heap.size w w'
theorem MadePost.bad {w : World} {ar : Nat} {X : List (List Nat)} {cs : List Int} {e : Ending} {w' : World} (hne : newErr (ar % 4 : Nat) cs ≠ 0) (he : e = .returned (.tuple #[.agg #[.slice none 0 0], .slice none 0 0, .bool false])) (hb : Below w.heap.size w w') : MadePost w ar X cs e w' :=
  ⟨fun _ => he, fun h0 => absurd h0 hne, hb⟩

end Go.Proofs.YthgaflmldbgbnaaDoor
end

section
/- Plain: Seek as repeated steps. -/
namespace Go.Proofs.YthgaflmldbgbnaaDoor
open Go.RowKit Go.Sort

theorem countP_prefix {K : RL.R} {v : RL.V} (h : K.Pairwise fun a b => RL.cmpV a b < 0) {j : Nat} (hj : j < K.length) : RL.cmpV K[j] v < 0 ↔ j < K.countP fun u => decide (RL.cmpV u v < 0) := by
  constructor
  · intro hlt
    rcases Nat.lt_or_ge j (K.countP fun u => decide (RL.cmpV u v < 0)) with h1 | h1
    · exact h1
    · exfalso
      -- the first j + 1 all are less
      have h2 : (K.take (j + 1)).countP (fun u => decide (RL.cmpV u v < 0)) = (K.take (j + 1)).length := List.countP_eq_length.2 fun u hu => by
        obtain ⟨i, hi, rfl⟩ := List.getElem_of_mem hu
        simp at hi
        rw [List.getElem_take]
        simp only [decide_eq_true_eq]
        rcases Nat.lt_or_ge i j with h3 | h3
        · exact RL.tot_cmpV.tr _ _ _ (List.pairwise_iff_getElem.1 h i j (by omega) hj h3) hlt
        · obtain rfl : i = j := by omega
          exact hlt
      have h4 := List.Sublist.countP_le (p := fun u => decide (RL.cmpV u v < 0)) (List.take_sublist (j + 1) K)
      rw [h2, List.length_take] at h4
      omega
  · intro hlt
    rcases Int.lt_or_le (RL.cmpV K[j] v) 0 with h1 | h1
    · exact h1
    · exfalso
      have h2 := countP_ge (v := v) h (q := j) (by omega) (fun _ => by omega)
      omega
section
variable {d : Nat} {P : List RL.R} (hd : ∀ r ∈ P, r.length = d) (v : RL.V)
include hd
end

end Go.Proofs.YthgaflmldbgbnaaDoor
end

section
/- Plain: two iterators that seek each other's keys in turn. -/
namespace Go.Proofs.YthgaflmldbgbnaaDoor
open Go.RowKit Go.Sort

/-- The values that both lists have. -/
def meetF (K1 K2 : RL.R) : RL.R := K1.filter fun v => decide (v ∈ K2)
/-- What remains of a meeting at places p and q. -/
structure Meet (K1 K2 : RL.R) (p q : Nat) (got : RL.R) : Prop where
  le1 : p ≤ K1.length
  le2 : q ≤ K2.length
  low : ∀ u ∈ K2.take q, ∀ x ∈ K1.drop p, RL.cmpV u x < 0
  eq : got ++ meetF (K1.drop p) K2 = meetF K1 K2
theorem Meet.start (K1 K2 : RL.R) : Meet K1 K2 0 0 [] := ⟨Nat.zero_le _, Nat.zero_le _, (fun u hu => by simp at hu), rfl⟩
/-- How many are less. -/
def cntF (K : RL.R) (v : RL.V) : Nat := K.countP fun u => decide (RL.cmpV u v < 0)
section
variable {K1 K2 : RL.R} {p q : Nat} {got : RL.R} (h1 : K1.Pairwise fun a b => RL.cmpV a b < 0) (h2 : K2.Pairwise fun a b => RL.cmpV a b < 0) (m : Meet K1 K2 p q got) (hp : p < K1.length)
include h1 h2 m hp
omit h1 in
theorem Meet.cnt : q ≤ cntF K2 K1[p] ∧ cntF K2 K1[p] ≤ K2.length := by
  have hle : cntF K2 K1[p] ≤ K2.length := List.countP_le_length
  refine ⟨?_, hle⟩
  rcases Nat.eq_zero_or_pos q with h | h
  · omega
  · have hq := m.le2
    have h3 := m.low (K2[q - 1]'(by omega)) (by rw [List.mem_take_iff_getElem]; exact ⟨q - 1, by omega, rfl⟩) K1[p] (by rw [List.mem_drop_iff_getElem]; exact ⟨0, by omega, rfl⟩)
    have := (countP_prefix h2 (j := q - 1) (by omega)).1 h3
    unfold cntF
    omega
omit h2 m in
theorem drop_ge : ∀ x ∈ K1.drop p, RL.cmpV K1[p] x ≤ 0 := fun x hx => by
  obtain ⟨j, hj, rfl⟩ := List.getElem_of_mem hx
  rw [List.getElem_drop]
  simp at hj
  rcases Nat.eq_zero_or_pos j with rfl | h
  · rw [show K1[p + 0] = K1[p] from rfl, RL.tot_cmpV.self]; omega
  · exact Int.le_of_lt (List.pairwise_iff_getElem.1 h1 p (p + j) hp (by omega) (by omega))
/-- The second list has nothing left. -/
theorem Meet.stop (he : ¬ cntF K2 K1[p] < K2.length) : got = meetF K1 K2 := by
  have hz : meetF (K1.drop p) K2 = [] := by
    unfold meetF
    rw [List.filter_eq_nil_iff]
    intro x hx hm
    simp only [decide_eq_true_eq] at hm
    obtain ⟨j, hj, rfl⟩ := List.getElem_of_mem hm
    have h3 := (countP_prefix h2 (v := K1[p]) hj).2 (by unfold cntF at he; omega)
    have h4 := drop_ge h1 hp _ hx
    have := RL.tot_cmpV.lt_of_lt_of_le h3 h4
    rw [RL.tot_cmpV.self] at this
    omega
  rw [← m.eq, hz, List.append_nil]
/-- Both stand at one value. -/
theorem Meet.hit (he : cntF K2 K1[p] < K2.length) (hv : K2[cntF K2 K1[p]] = K1[p]) : Meet K1 K2 (p + 1) (cntF K2 K1[p]) (got ++ [K1[p]]) := by
  refine ⟨hp, Nat.le_of_lt he, fun u hu x hx => ?_, ?_⟩
  · obtain ⟨j, hj, rfl⟩ := List.getElem_of_mem hu
    rw [List.getElem_take]
    simp at hj
    have h3 := (countP_prefix h2 (v := K1[p]) (j := j) (by omega)).2 (by unfold cntF at hj; omega)
    have h4 := drop_ge h1 hp x (List.mem_of_mem_drop (i := 1) (by rw [List.drop_drop]; exact hx))
    exact RL.tot_cmpV.lt_of_lt_of_le h3 h4
  · have hm : K1[p] ∈ K2 := by rw [← hv]; exact List.getElem_mem he
    have e : meetF (K1.drop p) K2 = K1[p] :: meetF (K1.drop (p + 1)) K2 := by
      unfold meetF
      rw [List.drop_eq_getElem_cons hp, List.filter_cons_of_pos (by simpa using hm)]
    rw [List.append_assoc, ← m.eq, e]
    rfl
end
/-- The first list has nothing left. -/
theorem Meet.done {K1 K2 : RL.R} {p q : Nat} {got : RL.R} (m : Meet K1 K2 p q got) (h : ¬ p < K1.length) : got = meetF K1 K2 := by
  have := m.eq
  rw [List.drop_of_length_le (by omega)] at this
  simpa [meetF] using this
end Go.Proofs.YthgaflmldbgbnaaDoor
end

section
/- Plain: joins of atoms, as the search by variables computes them; the places of the atoms' iterators. -/
namespace Go.Proofs.YthgaflmldbgbnaaDoor
open Go.RowKit Go.Sort

/-- An atom: its variables and its rows. -/
structure At where
  vs : List Nat
  P : List RL.R
abbrev At.d (a : At) : Nat := a.vs.length
structure At.Ok (n : Nat) (a : At) : Prop where
  asc : a.vs.Pairwise (· < ·)
  lt : ∀ v ∈ a.vs, v < n
  len : ∀ r ∈ a.P, r.length = a.vs.length
  ss : RL.SS a.P

def dv (x : RL.R) (v : Nat) : RL.V := x.getD v default
/-- What a row says about the variables of an atom that it reaches. -/
def pj (a : At) (x : RL.R) : RL.R := (a.vs.filter fun v => decide (v < x.length)).map (dv x)
def satA (a : At) (x : RL.R) : Prop := a.vs.map (dv x) ∈ a.P
/-- A beginning that some row of the atom allows. -/
def preA (a : At) (x : RL.R) : Prop := ∃ y ∈ a.P, y.take (pj a x).length = pj a x
def kidsA (a : At) (x : RL.R) : RL.R := RL.kids a.d a.P (pj a x)

theorem filter_lt_succ {vs : List Nat} (h : vs.Pairwise (· < ·)) (n : Nat) : vs.filter (fun v => decide (v < n + 1)) = vs.filter (fun v => decide (v < n)) ++ (if n ∈ vs then [n] else []) := by
  induction vs with
  | nil => rfl
  | cons a t ih =>
    obtain ⟨h1, h2⟩ := List.pairwise_cons.1 h
    have ih := ih h2
    rcases Nat.lt_trichotomy a n with hl | rfl | hg
    · rw [List.filter_cons_of_pos (by simp; omega), List.filter_cons_of_pos (by simpa using hl), ih]
      have : (n ∈ a :: t) ↔ n ∈ t := by simp; omega
      simp only [this]
      rfl
    · rw [List.filter_cons_of_pos (by simp), List.filter_cons_of_neg (by simp)]
      have e1 : t.filter (fun v => decide (v < a + 1)) = [] := List.filter_eq_nil_iff.2 fun v hv => by have := h1 v hv; simp; omega
      have e2 : t.filter (fun v => decide (v < a)) = [] := List.filter_eq_nil_iff.2 fun v hv => by have := h1 v hv; simp; omega
      rw [e1, e2]
      simp
    · rw [List.filter_cons_of_neg (by simp; omega), List.filter_cons_of_neg (by simp; omega), ih]
      have hn : n ∉ t := fun hm => by have := h1 n hm; omega
      rw [if_neg hn, if_neg (by simp; exact ⟨by omega, hn⟩)]
theorem filter_lt_length {vs : List Nat} (h : vs.Pairwise (· < ·)) {n : Nat} (hn : n ∈ vs) : (vs.filter fun v => decide (v < n)).length < vs.length := by
  have h1 := List.length_filter_le (fun v => decide (v < n + 1)) vs
  rw [filter_lt_succ h, if_pos hn, List.length_append, List.length_singleton] at h1
  omega
theorem filter_lt_prefix {vs : List Nat} (h : vs.Pairwise (· < ·)) (n : Nat) : vs.filter (fun v => decide (v < n)) <+: vs := by
  induction vs with
  | nil => simp
  | cons a t ih =>
    obtain ⟨h1, h2⟩ := List.pairwise_cons.1 h
    by_cases hl : a < n
    · rw [List.filter_cons_of_pos (by simpa using hl)]
      exact List.prefix_cons_iff.2 (.inr ⟨_, rfl, ih h2⟩)
    · rw [List.filter_cons_of_neg (by simpa using hl)]
      have : t.filter (fun v => decide (v < n)) = [] := List.filter_eq_nil_iff.2 fun v hv => by have := h1 v hv; simp; omega
      rw [this]
      exact List.nil_prefix
theorem dv_snoc (x : RL.R) (c : RL.V) {v : Nat} (h : v < x.length) : dv (x ++ [c]) v = dv x v := by
  unfold dv
  simp [List.getD_eq_getElem?_getD, List.getElem?_append_left h]
theorem dv_last (x : RL.R) (c : RL.V) : dv (x ++ [c]) x.length = c := by
  unfold dv
  simp [List.getD_eq_getElem?_getD]
theorem pj_nil (a : At) : pj a [] = [] := by unfold pj; simp
theorem pj_snoc {a : At} (h : a.vs.Pairwise (· < ·)) (x : RL.R) (c : RL.V) : pj a (x ++ [c]) = if x.length ∈ a.vs then pj a x ++ [c] else pj a x := by
  unfold pj
  rw [List.length_append, List.length_singleton, filter_lt_succ h, List.map_append]
  have e : (a.vs.filter fun v => decide (v < x.length)).map (dv (x ++ [c])) = (a.vs.filter fun v => decide (v < x.length)).map (dv x) :=
    List.map_congr_left fun v hv => dv_snoc x c (by simpa using (List.mem_filter.1 hv).2)
  rw [e]
  split
  · rw [List.map_singleton, dv_last]
  · simp
theorem pj_lt {a : At} (h : a.vs.Pairwise (· < ·)) {x : RL.R} (hx : x.length ∈ a.vs) : (pj a x).length < a.d := by unfold pj; rw [List.length_map]; exact filter_lt_length h hx
theorem pj_full {n : Nat} {a : At} (h : a.Ok n) {x : RL.R} (hx : x.length = n) : pj a x = a.vs.map (dv x) := by
  unfold pj
  rw [List.filter_eq_self.2 fun v hv => by have := h.lt v hv; simp; omega]
theorem preA_full {n : Nat} {a : At} (h : a.Ok n) {x : RL.R} (hx : x.length = n) : preA a x ↔ satA a x := by
  unfold preA satA
  rw [pj_full h hx]
  constructor
  · rintro ⟨y, hy, e⟩
    rw [List.length_map, ← h.len y hy, List.take_length] at e
    exact e ▸ hy
  · intro hm
    exact ⟨_, hm, List.take_length⟩
theorem preA_nil {a : At} (h : a.P ≠ []) : preA a [] := by
  obtain ⟨y, hy⟩ := List.exists_mem_of_ne_nil _ h
  exact ⟨y, hy, by rw [pj_nil]; rfl⟩
theorem preA_snoc {n : Nat} {a : At} (h : a.Ok n) {x : RL.R} {c : RL.V} (hx : x.length ∈ a.vs) : preA a (x ++ [c]) ↔ c ∈ kidsA a x := by
  unfold preA kidsA
  rw [pj_snoc h.asc, if_pos hx, RL.mem_kids h.len (pj_lt h.asc hx), List.length_append, List.length_singleton]
theorem preA_same {n : Nat} {a : At} (h : a.Ok n) {x : RL.R} {c : RL.V} (hx : x.length ∉ a.vs) : preA a (x ++ [c]) ↔ preA a x := by
  unfold preA
  rw [pj_snoc h.asc, if_neg hx]

/-- The atoms that have a variable. -/
def atsV (l : List At) (v : Nat) : List At := l.filter fun a => decide (v ∈ a.vs)
/-- The values that all atoms with the next variable allow behind x. -/
def candF (l : List At) (x : RL.R) : RL.R :=
  match atsV l x.length with
  | [] => []
  | a :: t => (kidsA a x).filter fun c => t.all fun b => decide (c ∈ kidsA b x)
def joinN (l : List At) : Nat → RL.R → List RL.R
  | 0, x => [x]
  | m + 1, x => (candF l x).flatMap fun c => joinN l m (x ++ [c])

theorem mem_candF {l : List At} {x : RL.R} (h : atsV l x.length ≠ []) (c : RL.V) : c ∈ candF l x ↔ ∀ a ∈ l, x.length ∈ a.vs → c ∈ kidsA a x := by
  have e : ∀ a, a ∈ atsV l x.length ↔ a ∈ l ∧ x.length ∈ a.vs := fun a => by unfold atsV; simp
  unfold candF
  cases hq : atsV l x.length with
  | nil => exact absurd hq h
  | cons a t =>
    rw [hq] at e
    simp only [List.mem_filter, List.all_eq_true, decide_eq_true_eq]
    constructor
    · rintro ⟨h1, h2⟩ b hb hv
      rcases List.mem_cons.1 ((e b).2 ⟨hb, hv⟩) with rfl | hm
      · exact h1
      · exact h2 b hm
    · intro hall
      exact ⟨hall a ((e a).1 (by simp)).1 ((e a).1 (by simp)).2, fun b hb => hall b ((e b).1 (by simp [hb])).1 ((e b).1 (by simp [hb])).2⟩
theorem candF_asc {n : Nat} {l : List At} (hl : ∀ a ∈ l, a.Ok n) (x : RL.R) : (candF l x).Pairwise fun a b => RL.cmpV a b < 0 := by
  unfold candF
  cases hq : atsV l x.length with
  | nil => exact List.Pairwise.nil
  | cons a t =>
    have ha : a ∈ l := by have : a ∈ atsV l x.length := by rw [hq]; simp
                          unfold atsV at this; exact (List.mem_filter.1 this).1
    exact List.Pairwise.sublist List.filter_sublist (RL.kids_asc (hl a ha).len _)

section
variable {n : Nat} {l : List At} (hl : ∀ a ∈ l, a.Ok n) (hu : ∀ v, v < n → ∃ a ∈ l, v ∈ a.vs)
include hl hu
omit hl in
theorem atsV_ne {v : Nat} (hv : v < n) : atsV l v ≠ [] := by
  obtain ⟨a, ha, h⟩ := hu v hv
  intro e
  have : a ∈ atsV l v := by unfold atsV; simp [ha, h]
  rw [e] at this
  simp at this
theorem cand_pre {x : RL.R} (hx : x.length < n) (hp : ∀ a ∈ l, preA a x) (c : RL.V) : c ∈ candF l x ↔ ∀ a ∈ l, preA a (x ++ [c]) := by
  rw [mem_candF (atsV_ne hu hx)]
  constructor
  · intro h a ha
    by_cases hv : x.length ∈ a.vs
    · exact (preA_snoc (hl a ha) hv).2 (h a ha hv)
    · exact (preA_same (hl a ha) hv).2 (hp a ha)
  · intro h a ha hv
    exact (preA_snoc (hl a ha) hv).1 (h a ha)
theorem mem_joinN : ∀ (m : Nat) (x : RL.R), x.length + m = n → (∀ a ∈ l, preA a x) → ∀ y, y ∈ joinN l m x ↔ y.length = n ∧ y.take x.length = x ∧ ∀ a ∈ l, satA a y
  | 0, x, hx, hp, y => by
    rw [joinN, List.mem_singleton]
    constructor
    · rintro rfl
      exact ⟨by omega, List.take_length, fun a ha => (preA_full (hl a ha) (by omega)).1 (hp a ha)⟩
    · rintro ⟨h1, h2, -⟩
      rw [show x.length = y.length by omega, List.take_length] at h2
      exact h2
  | m + 1, x, hx, hp, y => by
    rw [joinN, List.mem_flatMap]
    constructor
    · rintro ⟨c, hc, hy⟩
      have hp' := (cand_pre hl hu (by omega) hp c).1 hc
      obtain ⟨h1, h2, h3⟩ := (mem_joinN m (x ++ [c]) (by simp; omega) hp' y).1 hy
      refine ⟨h1, ?_, h3⟩
      have h4 := congrArg (List.take x.length) h2
      rw [List.take_take, List.length_append, List.length_singleton, Nat.min_eq_left (by omega), List.take_left] at h4
      exact h4
    · rintro ⟨h1, h2, h3⟩
      have hi : x.length < y.length := by omega
      have e : y.take (x.length + 1) = x ++ [y[x.length]] := by rw [List.take_succ_eq_append_getElem hi, h2]
      have hp' : ∀ a ∈ l, preA a (x ++ [y[x.length]]) := fun a ha => by
        refine ⟨a.vs.map (dv y), h3 a ha, ?_⟩
        unfold pj
        rw [← e, List.length_map]
        have e3 : (y.take (x.length + 1)).length = x.length + 1 := by simp; omega
        rw [e3]
        have hpre : a.vs.filter (fun v => decide (v < x.length + 1)) = a.vs.take (a.vs.filter fun v => decide (v < x.length + 1)).length := by
          refine (List.prefix_iff_eq_take.1 ?_)
          exact filter_lt_prefix (hl a ha).asc _
        have e2 : (a.vs.filter fun v => decide (v < x.length + 1)).map (dv (y.take (x.length + 1))) = (a.vs.filter fun v => decide (v < x.length + 1)).map (dv y) := by
          refine List.map_congr_left fun v hv => ?_
          have hv' : v < x.length + 1 := by simpa using (List.mem_filter.1 hv).2
          unfold dv
          rw [List.getD_eq_getElem?_getD, List.getElem?_take_of_lt hv', List.getD_eq_getElem?_getD]
        rw [e2, ← List.map_take, ← hpre]
      exact ⟨_, (cand_pre hl hu (by omega) hp _).2 hp', (mem_joinN m _ (by simp; omega) hp' y).2 ⟨h1, by simpa using e, h3⟩⟩
theorem joinN_ss : ∀ (m : Nat) (x : RL.R), x.length + m = n → (∀ a ∈ l, preA a x) → RL.SS (joinN l m x)
  | 0, x, _, _ => by rw [joinN]; exact List.pairwise_singleton _ _
  | m + 1, x, hx, hp => by
    rw [joinN]
    have hss : ∀ c ∈ candF l x, RL.SS (joinN l m (x ++ [c])) := fun c hc => joinN_ss m (x ++ [c]) (by simp; omega) ((cand_pre hl hu (by omega) hp c).1 hc)
    refine List.pairwise_flatMap.2 ⟨hss, (candF_asc hl x).imp_of_mem fun {c e} hc he hlt y hy z hz => ?_⟩
    obtain ⟨y1, y2, -⟩ := (mem_joinN hl hu m (x ++ [c]) (by simp; omega) ((cand_pre hl hu (by omega) hp c).1 hc) y).1 hy
    obtain ⟨z1, z2, -⟩ := (mem_joinN hl hu m (x ++ [e]) (by simp; omega) ((cand_pre hl hu (by omega) hp e).1 he) z).1 hz
    rw [← List.take_append_drop (x ++ [c]).length y, ← List.take_append_drop (x ++ [e]).length z, y2, z2]
    refine RL.lt_ext _ _ _ _ (by simp) ?_
    rw [RL.cmpR_append_left, RL.cmpR_one]
    exact hlt
end

/-- The whole join. -/
def joinF (n : Nat) (l : List At) : List RL.R := if l.any (fun a => decide (a.P = [])) then [] else joinN l n []
theorem mem_joinF {n : Nat} {l : List At} (hl : ∀ a ∈ l, a.Ok n) (hu : ∀ v, v < n → ∃ a ∈ l, v ∈ a.vs) (y : RL.R) : y ∈ joinF n l ↔ y.length = n ∧ ∀ a ∈ l, satA a y := by
  unfold joinF
  split
  · rename_i h
    obtain ⟨a, ha, h⟩ := List.any_eq_true.1 h
    have h : a.P = [] := by simpa using h
    constructor
    · intro hm; simp at hm
    · rintro ⟨-, h2⟩
      have := h2 a ha
      unfold satA at this
      rw [h] at this
      simp at this
  · rename_i h
    have hne : ∀ a ∈ l, a.P ≠ [] := fun a ha e => h (List.any_eq_true.2 ⟨a, ha, by simpa using e⟩)
    rw [mem_joinN hl hu n [] (by simp) (fun a ha => preA_nil (hne a ha))]
    simp
theorem joinF_ss {n : Nat} {l : List At} (hl : ∀ a ∈ l, a.Ok n) (hu : ∀ v, v < n → ∃ a ∈ l, v ∈ a.vs) : RL.SS (joinF n l) := by
  unfold joinF
  split
  · exact RL.ss_nil
  · rename_i h
    exact joinN_ss hl hu n [] (by simp) (fun a ha => preA_nil fun e => h (List.any_eq_true.2 ⟨a, ha, by simpa using e⟩))

end Go.Proofs.YthgaflmldbgbnaaDoor
end

section
/- Plain: joins and semijoins of two atoms, by assignments. -/
namespace Go.Proofs.YthgaflmldbgbnaaDoor
open Go.RowKit Go.Sort

/-- The value of a variable in a row over the variables U. -/
def getF (U : List Nat) (x : RL.R) (v : Nat) : RL.V := dv x (U.idxOf v)
/-- A row over the variables U, by a value for each. -/
def rowF (U : List Nat) (f : Nat → RL.V) : RL.R := U.map f
/-- Two rows agree on the common variables. -/
def agrF (us vs : List Nat) (x y : RL.R) : Prop := ∀ v ∈ us, v ∈ vs → getF us x v = getF vs y v
/-- The row over U with the values of x, and of y where x has none. -/
def mergeF (U us vs : List Nat) (x y : RL.R) : RL.R := rowF U fun v => if v ∈ us then getF us x v else getF vs y v

theorem getF_at {U : List Nat} (hn : U.Nodup) {x : RL.R} {i : Nat} (hi : i < U.length) (hx : i < x.length) : getF U x U[i] = x[i] := by
  unfold getF dv
  rw [hn.idxOf_getElem i hi, List.getD_eq_getElem?_getD, List.getElem?_eq_getElem hx]
  rfl
theorem getF_row {U : List Nat} (hn : U.Nodup) (f : Nat → RL.V) {v : Nat} (hv : v ∈ U) : getF U (rowF U f) v = f v := by
  obtain ⟨i, hi, rfl⟩ := List.mem_iff_getElem.1 hv
  have hx : i < (rowF U f).length := by unfold rowF; rw [List.length_map]; exact hi
  rw [getF_at hn hi hx]
  simp [rowF]
theorem row_getF {U : List Nat} (hn : U.Nodup) {x : RL.R} (hx : x.length = U.length) : rowF U (getF U x) = x := by
  unfold rowF
  refine List.ext_getElem (by rw [List.length_map, hx]) fun i h1 h2 => ?_
  rw [List.getElem_map]
  exact getF_at hn (by rw [List.length_map] at h1; exact h1) h2
theorem row_len (U : List Nat) (f : Nat → RL.V) : (rowF U f).length = U.length := List.length_map _
theorem row_eq {U : List Nat} {f g : Nat → RL.V} : rowF U f = rowF U g ↔ ∀ v ∈ U, f v = g v := by
  unfold rowF
  exact List.map_inj_left
/-- Restricting a merged row gives back its parts. -/
theorem merge_left {U us vs : List Nat} (hU : U.Nodup) (hus : us.Nodup) (hsub : ∀ v ∈ us, v ∈ U) {x y : RL.R} (hx : x.length = us.length) : rowF us (getF U (mergeF U us vs x y)) = x := by
  have e : rowF us (getF U (mergeF U us vs x y)) = rowF us (getF us x) := row_eq.2 fun v hv => by
    unfold mergeF
    rw [getF_row hU _ (hsub v hv), if_pos hv]
  rw [e, row_getF hus hx]
theorem merge_right {U us vs : List Nat} (hU : U.Nodup) (hvs : vs.Nodup) (hsub : ∀ v ∈ vs, v ∈ U) {x y : RL.R} (hy : y.length = vs.length) (ha : agrF us vs x y) : rowF vs (getF U (mergeF U us vs x y)) = y := by
  have e : rowF vs (getF U (mergeF U us vs x y)) = rowF vs (getF vs y) := row_eq.2 fun v hv => by
    unfold mergeF
    rw [getF_row hU _ (hsub v hv)]
    split
    · next h => exact ha v h hv
    · rfl
  rw [e, row_getF hvs hy]
/-- A row whose restrictions are x and y is the merged row. -/
theorem merge_of {U us vs : List Nat} (hU : U.Nodup) (hus : us.Nodup) (hvs : vs.Nodup) (hsub : ∀ v ∈ U, v ∈ us ∨ v ∈ vs) {x y z : RL.R} (hz : z.length = U.length) (ex : rowF us (getF U z) = x) (ey : rowF vs (getF U z) = y) : agrF us vs x y ∧ z = mergeF U us vs x y := by
  have h1 : ∀ v ∈ us, getF us x v = getF U z v := fun v hv => by rw [← ex, getF_row hus _ hv]
  have h2 : ∀ v ∈ vs, getF vs y v = getF U z v := fun v hv => by rw [← ey, getF_row hvs _ hv]
  refine ⟨fun v hu hv => (h1 v hu).trans (h2 v hv).symm, ?_⟩
  rw [← row_getF hU hz]
  unfold mergeF
  refine row_eq.2 fun v hv => ?_
  split
  · next h => exact (h1 v h).symm
  · next h => exact (h2 v ((hsub v hv).resolve_left h)).symm
/-- The atom in the dense numbering of the variables U. -/
def denseA (U : List Nat) (a : At) : At := ⟨a.vs.map U.idxOf, a.P⟩
theorem sat_dense (U : List Nat) (a : At) (z : RL.R) : satA (denseA U a) z ↔ rowF a.vs (getF U z) ∈ a.P := by
  unfold satA denseA rowF getF
  rw [List.map_map]
  rfl
/-- The rows of a that agree with a row of b. -/
noncomputable def semiF (a b : At) : List RL.R := by
  classical
  exact a.P.filter fun x => decide (∃ y ∈ b.P, agrF a.vs b.vs x y)
theorem mem_semiF {a b : At} {x : RL.R} : x ∈ semiF a b ↔ x ∈ a.P ∧ ∃ y ∈ b.P, agrF a.vs b.vs x y := by
  unfold semiF
  simp
/-- The semijoin is the projection of the join. -/
theorem semi_proj {U : List Nat} {a b : At} (hU : U.Nodup) (ha : a.vs.Nodup) (hb : b.vs.Nodup) (hmem : ∀ v, v ∈ U ↔ v ∈ a.vs ∨ v ∈ b.vs) (hla : ∀ x ∈ a.P, x.length = a.vs.length) (hlb : ∀ y ∈ b.P, y.length = b.vs.length) (x : RL.R) :
    x ∈ semiF a b ↔ ∃ z : RL.R, z.length = U.length ∧ rowF a.vs (getF U z) ∈ a.P ∧ rowF b.vs (getF U z) ∈ b.P ∧ rowF a.vs (getF U z) = x := by
  rw [mem_semiF]
  constructor
  · rintro ⟨hx, y, hy, hag⟩
    have e1 := merge_left (vs := b.vs) (y := y) hU ha (fun v hv => (hmem v).2 (.inl hv)) (hla x hx)
    have e2 := merge_right hU hb (fun v hv => (hmem v).2 (.inr hv)) (hlb y hy) hag
    exact ⟨mergeF U a.vs b.vs x y, row_len _ _, by rw [e1]; exact hx, by rw [e2]; exact hy, e1⟩
  · rintro ⟨z, hz, h1, h2, rfl⟩
    exact ⟨h1, _, h2, (merge_of hU ha hb (fun v hv => (hmem v).1 hv) hz rfl rfl).1⟩
/-- The rows of the join of two atoms. -/
theorem join_two {U : List Nat} {a b : At} (hU : U.Nodup) (ha : a.vs.Nodup) (hb : b.vs.Nodup) (hmem : ∀ v, v ∈ U ↔ v ∈ a.vs ∨ v ∈ b.vs) (hla : ∀ x ∈ a.P, x.length = a.vs.length) (hlb : ∀ y ∈ b.P, y.length = b.vs.length) (z : RL.R) :
    (z.length = U.length ∧ rowF a.vs (getF U z) ∈ a.P ∧ rowF b.vs (getF U z) ∈ b.P) ↔ ∃ x ∈ a.P, ∃ y ∈ b.P, agrF a.vs b.vs x y ∧ z = mergeF U a.vs b.vs x y := by
  constructor
  · rintro ⟨hz, h1, h2⟩
    obtain ⟨h3, h4⟩ := merge_of hU ha hb (fun v hv => (hmem v).1 hv) hz rfl rfl
    exact ⟨_, h1, _, h2, h3, h4⟩
  · rintro ⟨x, hx, y, hy, hag, rfl⟩
    have e1 := merge_left (vs := b.vs) (y := y) hU ha (fun v hv => (hmem v).2 (.inl hv)) (hla x hx)
    have e2 := merge_right hU hb (fun v hv => (hmem v).2 (.inr hv)) (hlb y hy) hag
    exact ⟨row_len _ _, by rw [e1]; exact hx, by rw [e2]; exact hy⟩
/-- The columns of the variables of us that are in a list. -/
def colsF (us ks : List Nat) : List Nat := (List.range us.length).filter fun i => decide (us.getD i 0 ∈ ks)
theorem cols_row {us : List Nat} (hn : us.Nodup) (ks : List Nat) {x : RL.R} (hx : x.length = us.length) : (colsF us ks).map (dv x) = rowF (us.filter fun v => decide (v ∈ ks)) (getF us x) := by
  have e : us.filter (fun v => decide (v ∈ ks)) = (colsF us ks).map fun i => us.getD i 0 := by
    have h1 : us = (List.range us.length).map fun i => us.getD i 0 := List.ext_getElem (by simp) fun i h1 h2 => by simp [h1]
    have h2 : us.filter (fun v => decide (v ∈ ks)) = ((List.range us.length).map fun i => us.getD i 0).filter fun v => decide (v ∈ ks) := by rw [← h1]
    rw [h2, List.filter_map]
    rfl
  unfold rowF
  rw [e, List.map_map]
  refine List.map_congr_left fun i hi => ?_
  have hi : i < us.length := List.mem_range.1 (List.mem_filter.1 hi).1
  have e2 : us.getD i 0 = us[i] := by simp [hi]
  show dv x i = getF us x (us.getD i 0)
  rw [e2, getF_at hn hi (by omega)]
  unfold dv
  rw [List.getD_eq_getElem?_getD, List.getElem?_eq_getElem (show i < x.length by omega)]
  rfl
/-- Two rows have the same values in the common columns just if they agree. -/
theorem cols_agr {us vs : List Nat} (hu : us.Pairwise (· < ·)) (hv : vs.Pairwise (· < ·)) {x y : RL.R} (hx : x.length = us.length) (hy : y.length = vs.length) : (colsF us vs).map (dv x) = (colsF vs us).map (dv y) ↔ agrF us vs x y := by
  have hun : us.Nodup := hu.imp fun h e => by omega
  have hvn : vs.Nodup := hv.imp fun h e => by omega
  have e : us.filter (fun v => decide (v ∈ vs)) = vs.filter (fun v => decide (v ∈ us)) := by
    have hp : (us.filter fun v => decide (v ∈ vs)).Perm (vs.filter fun v => decide (v ∈ us)) := (List.perm_ext_iff_of_nodup (hun.filter _) (hvn.filter _)).2 fun v => by simp [and_comm]
    exact hp.eq_of_pairwise (le := fun a b => a < b) (fun a b _ _ h1 h2 => absurd (Nat.lt_trans h1 h2) (Nat.lt_irrefl _)) (hu.filter _) (hv.filter _)
  rw [cols_row hun vs hx, cols_row hvn us hy, ← e, row_eq]
  constructor
  · exact fun h v h1 h2 => h v (by simp [h1, h2])
  · exact fun h v h1 => h v (List.mem_filter.1 h1).1 (by simpa using (List.mem_filter.1 h1).2)

end Go.Proofs.YthgaflmldbgbnaaDoor
end

section
/- Plain definitions: what the functions of the packages hypergraph and jointree compute, on lists. No program in sight. -/
namespace Go.Proofs.YthgaflmldbgbnaaDoor.JT

/-- a &^ b on 32 bits. -/
def dif (a b : Nat) : Nat := a &&& (4294967295 - b)

theorem testBit_dif (a b i : Nat) (ha : a < 4294967296) (hb : b < 4294967296) : (dif a b).testBit i = (a.testBit i && !b.testBit i) := by
  unfold dif
  rw [Nat.testBit_and, show 4294967295 - b = 2 ^ 32 - (b + 1) by omega, Nat.testBit_two_pow_sub_succ (by omega)]
  by_cases h : i < 32
  · simp [h]
  · have h2 : a.testBit i = false := Nat.testBit_lt_two_pow (Nat.lt_of_lt_of_le ha (by
      have : 2 ^ 32 ≤ 2 ^ i := Nat.pow_le_pow_right (by omega) (by omega)
      omega))
    simp [h2]

theorem dif_below (a n : Nat) (ha : a < 4294967296) (hn : n ≤ 32) : dif a (2 ^ n - 1) = 0 ↔ a < 2 ^ n := by
  have hb : 2 ^ n ≤ 2 ^ 32 := Nat.pow_le_pow_right (by omega) hn
  constructor
  · intro h
    apply Nat.lt_pow_two_of_testBit
    intro i hi
    have h3 := testBit_dif a (2 ^ n - 1) i ha (by omega)
    rw [h, Nat.testBit_two_pow_sub_one] at h3
    simp at h3
    cases h4 : a.testBit i
    · rfl
    · rw [h4] at h3; simp at h3; omega
  · intro h
    apply Nat.eq_of_testBit_eq
    intro i
    rw [testBit_dif a _ i ha (by omega), Nat.testBit_two_pow_sub_one]
    by_cases hi : i < n
    · simp [hi]
    · have h2 : a.testBit i = false := Nat.testBit_lt_two_pow (Nat.lt_of_lt_of_le h (Nat.pow_le_pow_right (by omega) (by omega)))
      simp [h2]

theorem dif_lt (a b : Nat) (ha : a < 4294967296) : dif a b < 4294967296 := by
  unfold dif
  exact Nat.lt_of_le_of_lt Nat.and_le_left ha

/-- hypergraph.Check: the error code. -/
def hgCheckF (N : Int) (es : List Nat) : Int :=
  if N < 0 ∨ 32 < N then 3 else if 64 < es.length then 12 else if es.all (fun e => decide (e < 2 ^ N.toNat)) then 0 else 1

theorem hgCheckF_ok {n : Nat} {es : List Nat} (hn : n ≤ 32) (hl : es.length ≤ 64) (h : ∀ e ∈ es, e < 2 ^ n) : hgCheckF n es = 0 := by
  unfold hgCheckF
  rw [if_neg (by omega), if_neg (by omega), if_pos (by simpa using h)]
theorem hgCheckF_bad {n : Nat} {es : List Nat} (hn : n ≤ 32) (hl : es.length ≤ 64) {e : Nat} (he : e ∈ es) (h : ¬ e < 2 ^ n) : hgCheckF n es = 1 := by
  unfold hgCheckF
  rw [if_neg (by omega), if_neg (by omega), if_neg]
  intro h2
  simp at h2
  exact h (h2 e he)
theorem hgCheckF_zero {N : Int} {es : List Nat} (h : hgCheckF N es = 0) : ∃ n : Nat, N = n ∧ n ≤ 32 ∧ es.length ≤ 64 ∧ ∀ e ∈ es, e < 2 ^ n := by
  unfold hgCheckF at h
  by_cases h1 : N < 0 ∨ 32 < N
  · rw [if_pos h1] at h; omega
  rw [if_neg h1] at h
  by_cases h2 : 64 < es.length
  · rw [if_pos h2] at h; omega
  rw [if_neg h2] at h
  obtain ⟨n, rfl⟩ := Int.eq_ofNat_of_zero_le (show 0 ≤ N by omega)
  refine ⟨n, rfl, by omega, by omega, ?_⟩
  by_cases h3 : (es.all fun e => decide (e < 2 ^ (n : Int).toNat)) = true
  · simpa using h3
  · rw [if_neg h3] at h; omega

/-- jointree.Separator. -/
def sepF (es : List Nat) (ps : List Int) (node : Int) : Nat :=
  if 0 ≤ node ∧ node < ps.length ∧ node < es.length then
    (if 0 ≤ ps[node.toNat]?.getD 0 ∧ ps[node.toNat]?.getD 0 < es.length then es[node.toNat]?.getD 0 &&& es[(ps[node.toNat]?.getD 0).toNat]?.getD 0 else 0)
  else 0

/-- The k-th ancestor; below 0: none. -/
def up (ps : List Int) : Nat → Int → Int
  | 0, v => v
  | k + 1, v => if v < 0 then v else up ps k (ps[v.toNat]?.getD 0)

def validB (ps : List Int) : Bool := ps.all fun p => decide (-1 ≤ p) && decide (p < ps.length)
def rootsF (ps : List Int) : Nat := ps.countP fun p => decide (p < 0)
/-- Do the parents describe a rooted tree? -/
def rootedB (ps : List Int) : Bool := validB ps && (rootsF ps == 1) && (List.range ps.length).all fun i => decide (up ps ps.length (i : Int) < 0)

def has (e v : Nat) : Bool := e / 2 ^ v % 2 == 1
def nodesF (es : List Nat) (v : Nat) : Nat := (List.range es.length).countP fun i => has (es[i]?.getD 0) v
def linkB (es : List Nat) (ps : List Int) (v i : Nat) : Bool :=
  has (es[i]?.getD 0) v && decide (0 ≤ ps[i]?.getD 0) && has (es[(ps[i]?.getD 0).toNat]?.getD 0) v
def linksF (es : List Nat) (ps : List Int) (v : Nat) : Nat := (List.range es.length).countP fun i => linkB es ps v i
/-- The running intersection property. -/
def joinB (N : Nat) (es : List Nat) (ps : List Int) : Bool :=
  (List.range N).all fun v => nodesF es v == 0 || ((nodesF es v : Int) - linksF es ps v == 1)

/-- jointree.Check: the error code. -/
def chkF (N : Int) (es : List Nat) (ps : List Int) : Int :=
  if hgCheckF N es ≠ 0 then hgCheckF N es else if ps.length ≠ es.length then 28 else if rootedB ps = false then 15 else if joinB N.toNat es ps = false then 24 else 0

end Go.Proofs.YthgaflmldbgbnaaDoor.JT
end

section
namespace Go.Proofs.YthgaflmldbgbnaaDoor
open Go.RowKit

set_option maxHeartbeats 400000 in
theorem below_any (n : Nat) (w : World) (h1 : n ≤ 32) :
    Calls Tryd.prog 52 #[.int .i64 n] w fun e w' => e = .returned (.int .u32 ((2 ^ n - 1 : Nat) : Int)) ∧ w = w' := by
  have hp : IntKind.u64.wrap (IntKind.u64.wrap (2 ^ n) - 1) % 4294967296 = ((2 ^ n - 1 : Nat) : Int) := by
    have h2 : ∀ k : Nat, k ≤ 32 → IntKind.u64.wrap (IntKind.u64.wrap ((2 ^ k : Nat) : Int) - 1) % 4294967296 = ((2 ^ k - 1 : Nat) : Int) := by decide
    have := h2 n h1
    simpa using this
  have HP := Lib.hid hp
  clear hp
  go_enter Tryd.func52, Tryd.ntmps52
  go_wp2
  go_ret
  refine ⟨?_, rfl⟩
  rw [← HP.out]
  simp

theorem U32s.at_ {es : List Nat} (h : U32s es) {i : Nat} (hi : i < es.length) : es[i] ≤ 4294967295 := h _ (List.getElem_mem hi)

set_option maxHeartbeats 400000 in
theorem hgCheck_any (N : Int) (EA : Option Addr) (EC : Nat) (es : List Nat) (w : World)
    (he : SlN .u32 w.heap.size w EA es) (hu : U32s es) (hel : es.length ≤ 1000000) :
    Calls Tryd.prog 31 #[.agg #[.int .i64 N, .slice EA es.length EC]] w fun e w' => e = .returned (.int .i64 (JT.hgCheckF N es)) ∧ Below w.heap.size w w' := by
  by_cases h1 : N < 0
  · have hf : JT.hgCheckF N es = 3 := by simp [JT.hgCheckF, h1]
    rw [hf]; clear hf he hu
    go_enter Tryd.func31, Tryd.ntmps31
    go_wp2
    go_ret
    exact ⟨rfl, (Below.refl _ _).alloc (Nat.le_refl _) _⟩
  by_cases h2 : 32 < N
  · have hf : JT.hgCheckF N es = 3 := by simp [JT.hgCheckF, h2]
    rw [hf]; clear hf he hu
    go_enter Tryd.func31, Tryd.ntmps31
    go_wp2
    go_ret
    exact ⟨rfl, (Below.refl _ _).alloc (Nat.le_refl _) _⟩
  by_cases h3 : 64 < es.length
  · have hf : JT.hgCheckF N es = 12 := by simp [JT.hgCheckF, h1, h2, h3]
    rw [hf]; clear hf he hu
    generalize es.length = m at *
    go_enter Tryd.func31, Tryd.ntmps31
    go_wp2
    go_ret
    exact ⟨rfl, (Below.refl _ _).alloc (Nat.le_refl _) _⟩
  obtain ⟨n, rfl⟩ := Int.eq_ofNat_of_zero_le (show 0 ≤ N by omega)
  have hn : n ≤ 32 := by omega
  go_enter Tryd.func31, Tryd.ntmps31
  go_wp2
  go_loopw [20] (fun i wr => ∃ k : Nat, k ≤ es.length ∧ i = .int .i64 k ∧ (∀ e ∈ es.take k, e < 2 ^ n) ∧ Below w.heap.size w wr ∧ wr.cell? ⟨w.heap.size, 0, none⟩ = some (.int .i64 n)) (fun i _ => es.length - (intOf i).toNat)
  case atStart => exact ⟨0, Nat.zero_le _, rfl, by simp, (Below.refl _ _).alloc (Nat.le_refl _) _, by go_simp⟩
  case round =>
    obtain ⟨k, hk, rfl, hall, hb, hN⟩ := hrel
    have HA := Lib.hid hall
    clear hall
    by_cases hlt : k < es.length
    · obtain ⟨b, o, rfl, hbb, hc⟩ := slN_at (he.below hb (Nat.le_refl _)) hlt
      have hu1 := hu.at_ hlt
      generalize hek : es[k] = ek at *
      have HK := Lib.hid hek
      clear hek he hu
      have hba : bits .andNot .u32 (ek : Int) ((2 ^ n - 1 : Nat) : Int) = (JT.dif ek (2 ^ n - 1) : Nat) := u32_andNot_nat ek (2 ^ n - 1) (by omega) (by have : 2 ^ n ≤ 2 ^ 32 := Nat.pow_le_pow_right (by omega) hn; omega)
      have hd := JT.dif_below ek n (by omega) hn
      generalize JT.dif ek (2 ^ n - 1) = d at *
      have HD := Lib.hid hd
      clear hd
      go_wp2_with (go_at_call 52; refine (below_any _ _ hn).mono ?_; rintro e w' ⟨rfl, rfl⟩)
      · have hne : ((d : Int) != 0) = true := by assumption
        go_ret
        refine ⟨?_, hb⟩
        have h6 : ¬ es[k] < 2 ^ n := by
          rw [HK.out, ← HD.out]
          simp at hne
          omega
        exact ret_int (JT.hgCheckF_bad hn (by omega) (List.getElem_mem hlt) h6).symm
      · have hne : ((d : Int) != 0) = false := by assumption
        go_roundw
        case rel =>
          refine ⟨k + 1, by omega, by go_num, ?_, hb, hN⟩
          intro e he2
          rw [List.take_succ_eq_append_getElem hlt, List.mem_append] at he2
          rcases he2 with he2 | he2
          · exact HA.out e he2
          · simp at he2
            simp at hne
            rw [he2, HK.out, ← HD.out]
            omega
        case measure => simp [intOf]; omega
    · go_wp2
      go_ret
      refine ⟨?_, hb⟩
      have : k = es.length := by omega
      subst this
      have h5 := HA.out
      rw [List.take_length] at h5
      exact ret_int (JT.hgCheckF_ok hn (by omega) h5).symm

theorem sepF_zero1 {es : List Nat} {ps : List Int} {node : Int} (h : ¬ (0 ≤ node ∧ node < ps.length ∧ node < es.length)) : JT.sepF es ps node = 0 := by
  unfold JT.sepF
  rw [if_neg h]

set_option maxHeartbeats 400000 in
theorem sep_any (N : Int) (EA PA : Option Addr) (EC PC : Nat) (es : List Nat) (ps : List Int) (node : Int) (w : World)
   (he : SlN .u32 w.heap.size w EA es) (hu : U32s es) (hp : SlI .i64 w.heap.size w PA ps) (_hel : es.length ≤ 1000000) (_hpl : ps.length ≤ 1000000) :
    Calls Tryd.prog 33 #[.agg #[.int .i64 N, .slice EA es.length EC], .agg #[.slice PA ps.length PC], .int .i64 node] w fun e w' => e = .returned (.int .u32 (JT.sepF es ps node : Nat)) ∧ Below w.heap.size w w' := by
  have hbel : ∀ o1 o2 : Obj, Below w.heap.size w ((w.alloc o1).alloc o2) := fun o1 o2 => ((Below.refl _ _).alloc (Nat.le_refl _) _).alloc (by simp) _
  by_cases h0 : node < 0
  · rw [sepF_zero1 (by omega)]
    clear he hp hu
    generalize es.length = m at *
    generalize ps.length = n at *
    go_enter Tryd.func33, Tryd.ntmps33
    go_wp2
    go_ret
    exact ⟨rfl, hbel _ _⟩
  obtain ⟨i, rfl⟩ := Int.eq_ofNat_of_zero_le (show 0 ≤ node by omega)
  by_cases h1 : i < ps.length
  rotate_left
  · rw [sepF_zero1 (by omega)]
    clear he hp hu
    generalize es.length = m at *
    generalize ps.length = n at *
    go_enter Tryd.func33, Tryd.ntmps33
    go_wp2
    go_ret
    exact ⟨rfl, hbel _ _⟩
  by_cases h2 : i < es.length
  rotate_left
  · rw [sepF_zero1 (by omega)]
    clear he hp hu
    generalize es.length = m at *
    generalize ps.length = n at *
    go_enter Tryd.func33, Tryd.ntmps33
    go_wp2
    go_ret
    exact ⟨rfl, hbel _ _⟩
  have hsp : JT.sepF es ps (i : Int) = if 0 ≤ ps[i] ∧ ps[i] < es.length then es[i] &&& es[ps[i].toNat]?.getD 0 else 0 := by
    unfold JT.sepF
    rw [if_pos (by omega)]
    simp [h1, h2]
  rw [hsp]; clear hsp
  obtain ⟨b2, o2, rfl, hb2, hcp⟩ := slI_at hp h1
  obtain ⟨b, o, rfl, hb, hci⟩ := slN_at he h2
  have hui := hu.at_ h2
  generalize ps[i] = p at *
  by_cases h3 : p < 0
  · rw [if_neg (by omega)]
    clear he hp hu hci hui
    generalize es.length = m at *
    generalize ps.length = n at *
    go_enter Tryd.func33, Tryd.ntmps33
    go_wp2
    go_ret
    exact ⟨rfl, hbel _ _⟩
  obtain ⟨j, rfl⟩ := Int.eq_ofNat_of_zero_le (show 0 ≤ p by omega)
  by_cases h4 : j < es.length
  rotate_left
  · rw [if_neg (by omega)]
    clear he hp hu hci hui
    generalize es.length = m at *
    generalize ps.length = n at *
    go_enter Tryd.func33, Tryd.ntmps33
    go_wp2
    go_ret
    exact ⟨rfl, hbel _ _⟩
  rw [if_pos (by omega)]
  obtain ⟨b', o', e', hb', hcj⟩ := slN_at he h4
  simp at e'
  obtain ⟨rfl, rfl⟩ := e'
  have huj := hu.at_ h4
  have hj : es[(j : Int).toNat]?.getD 0 = es[j] := by simp [h4]
  rw [hj]; clear hj
  generalize es[i] = ei at *
  generalize es[j] = ej at *
  clear he hp hu hb'
  generalize es.length = m at *
  generalize ps.length = n at *
  have HB := Lib.hid (u32_and_nat ei ej (by omega) (by omega))
  go_enter Tryd.func33, Tryd.ntmps33
  go_wp2
  go_quiet (fail)
  go_wp2
  go_ret
  exact ⟨ret_int HB.out, Below.drewN' (hbel _ _) _⟩

end Go.Proofs.YthgaflmldbgbnaaDoor
end

section
namespace Go.Proofs.YthgaflmldbgbnaaDoor
open Go.RowKit

theorem add_pos (b o i : Nat) : (Addr.add ⟨b, o, none⟩ i) = ⟨b, o + i, none⟩ := by
  unfold Addr.add
  split
  · next h => subst h; rfl
  · rfl

/-- The cells of a slice that reads as xs, by 'Addr.add'. -/
theorem Sl.cells {B : Nat} {w : World} {ad : Addr} {xs : List Value} (h : Sl B w (some ad) xs) : ∀ j u, xs[j]? = some u → w.cell? (ad.add j) = some u := by
  intro j u hu
  obtain ⟨b, o, e, _, hc⟩ := h (by rintro rfl; simp at hu)
  injection e with e
  subst e
  rw [add_pos]
  exact hc j u hu

theorem intInfo27 : (Tryd.prog.info? 3).map (fun i => (i.zero, i.size, i.bytes)) = some (some (.int .i64 0), 1, 8) := by kernel_rfl
theorem u32Info : (Tryd.prog.info? 47).map (fun i => (i.zero, i.size, i.bytes)) = some (some (.int .u32 0), 1, 4) := by kernel_rfl

/-- append of one number to a row of the call's own. -/
theorem app1Int27 {w : World} {ops : Array Oper} {rest : List Oper} {o : Oper} {a : Act} {Q : Exit → Act → World → Prop} (hgd : o.guard = none) (s x : Operand)
    (ho : o.op = .call { callee := .builtin .append, args := #[s, x], argTypes := #[27, 27] })
    (base : Nat) (v : Value) (n : Nat) (xs : List Value) (hs : a.eval s = v) (hown : w.ownsRow base 3 1 v n xs)
    (g : Nat) (z : Int) (hx : a.eval x = .slice (some ⟨g, 0, none⟩) 1 1) (hg : w.cell? ⟨g, 0, none⟩ = some (.int .i64 z))
    (hn : n ≤ 100000000) (hbase : base ≤ w.heap.size)
    (h : ∀ v' w', w'.ownsRow base 3 1 v' (n + 1) (xs ++ [.int .i64 z]) → w.grownBy w' v.ownBlock → wpList Tryd.prog ops Q rest (a.put o.dst v') w') : wpList Tryd.prog ops Q (o :: rest) a w := by
  obtain ⟨i0, hi0, hz0, hz1, hz2⟩ := info_parts intInfo27
  refine wpList_append_own w hgd s x 27 ho base 3 i0 _ 1 8 Tryd.underlying27 hi0 hz0 hz1 hz2 rfl (by decide) v n xs hs hown ⟨g, 0, none⟩ 1 1 [.int .i64 z] hx rfl ?_ (by simp [Value.oneCell']) (by simp only [maxLen]; omega) (by omega) hbase fun v' w' h1 h2 _ => h v' w' h1 h2
  intro j u hu
  cases j with
  | zero => simp at hu; subst hu; exact hg
  | succ j => simp at hu

set_option maxHeartbeats 400000 in
theorem cloneInt_any (A : Option Addr) (c : Nat) (zs : List Int) (w : World) (hx : SlI .i64 w.heap.size w A zs) (hl : zs.length ≤ 1000000) :
    Calls Tryd.prog 48 #[.slice A zs.length c] w fun e w' => ∃ v, e = .returned v ∧ w'.ownsRow w.heap.size 3 1 v zs.length (zs.map (Value.int .i64)) ∧ Below w.heap.size w w' := by
  have hnil := fun w => Lib.run_eql_slice_nil (P := Tryd.prog) w 27 3 A zs.length c 0 0 Tryd.underlying27
  rcases A with _ | ad
  · have hz : zs = [] := by
      cases zs with
      | nil => rfl
      | cons z zs => obtain ⟨b, o, e, _⟩ := hx (by simp); cases e
    subst hz
    simp only [List.length_nil] at *
    clear hx
    go_enter Tryd.func48, Tryd.ntmps48
    go_wp2
    go_ret
    exact ⟨_, rfl, ⟨rfl, .inl ⟨rfl, rfl⟩⟩, Below.refl _ _⟩
  · obtain ⟨i0, hi0, hz0, hz1, hz2⟩ := info_parts intInfo27
    have hcs := (hx.alloc (Nat.le_refl _) (.cells #[] 3)).cells
    have hown : (w.alloc (.cells #[] 3)).ownsRow w.heap.size 3 1 (.slice (some ⟨w.heap.size, 0, none⟩) 0 0) 0 [] := ⟨rfl, .inr ⟨w.heap.size, 0, #[], rfl, Nat.le_refl _, heap_alloc_new w _, Nat.le_refl _, by simp [maxLen], rfl, rfl⟩⟩
    have HC := Lib.hid hcs
    have HO := Lib.hid hown
    clear hcs hown hx
    go_enter Tryd.func48, Tryd.ntmps48
    go_wp2_with (at_builtin; refine wpList_append_own _ rfl (.tmp 5) (.tmp 6) 27 rfl w.heap.size 3 i0 _ 1 8 Tryd.underlying27 hi0 hz0 hz1 hz2 rfl (by decide) (.slice (some ⟨w.heap.size, 0, none⟩) 0 0) 0 [] rfl HO.out ad zs.length c (zs.map (Value.int .i64)) rfl (by simp) HC.out (by simp [Value.oneCell']) (by simp only [maxLen]; omega) (by omega) (by simp) ?_; intro v' w' hown' hg' hn'; have HO' := Lib.hid hown'; have HG := Lib.hid hg'; clear hown' hg' hn')
    go_ret
    have h1 := HO'.out
    simp only [Nat.zero_add, List.nil_append] at h1
    refine ⟨_, rfl, h1, ?_⟩
    refine ((Below.refl _ _).alloc (Nat.le_refl _) _).grown HG.out (by simp) ?_
    intro k hk
    simp [Value.ownBlock] at hk
    omega

end Go.Proofs.YthgaflmldbgbnaaDoor
end

section
/- Walks of chapter 36: the set of an atom's variables, columns. -/
namespace Go.Proofs.YthgaflmldbgbnaaDoor
open Go.RowKit Go.Sort

/-- The set of variables as a word. -/
def setN (vs : List Nat) : Nat := vs.foldl (fun s v => s ||| 2 ^ v) 0
theorem setN_snoc (vs : List Nat) (v : Nat) : setN (vs ++ [v]) = setN vs ||| 2 ^ v := by unfold setN; rw [List.foldl_append]; rfl
theorem setN_bit (vs : List Nat) (v : Nat) : (setN vs).testBit v = decide (v ∈ vs) := by
  have h : ∀ (l : List Nat) (s : Nat), (l.foldl (fun s v => s ||| 2 ^ v) s).testBit v = (s.testBit v || decide (v ∈ l)) := by
    intro l
    induction l with
    | nil => intro s; simp
    | cons a t ih =>
      intro s
      rw [List.foldl_cons, ih, Nat.testBit_or, Nat.testBit_two_pow]
      by_cases e : a = v
      · subst e; simp
      · have : ¬ v = a := fun h => e h.symm
        simp [e, this]
  have := h vs 0
  simpa [setN] using this
theorem setN_lt {vs : List Nat} (h : ∀ v ∈ vs, v < 32) : setN vs < 2 ^ 32 := by
  have hh : ∀ (l : List Nat) (s : Nat), (∀ v ∈ l, v < 32) → s < 2 ^ 32 → l.foldl (fun s v => s ||| 2 ^ v) s < 2 ^ 32 := by
    intro l
    induction l with
    | nil => intro s _ hs; exact hs
    | cons a t ih =>
      intro s hl hs
      rw [List.foldl_cons]
      exact ih _ (fun v hv => hl v (List.mem_cons_of_mem _ hv)) (Nat.or_lt_two_pow hs (Nat.pow_lt_pow_right (by decide) (hl a List.mem_cons_self)))
  exact hh vs 0 h (by decide)

set_option maxHeartbeats 4000000 in
set_option maxRecDepth 100000 in
theorem sjSet_any (VA PA : Option Addr) (VC PC m : Nat) (ar : Int) (vs : List Nat) (w : World) (hv : SlI .i64 w.heap.size w VA (vs.map Int.ofNat)) (hl : vs.length ≤ 1000000) (h32 : ∀ v ∈ vs, v < 32) :
    Calls Tryd.prog 28 #[.agg #[.slice VA vs.length VC, .int .i64 ar, .slice PA m PC]] w fun e w' => e = .returned (.int .u32 (setN vs : Nat)) ∧ Ext w w' := by
  obtain ⟨W0, hW0⟩ : ∃ W0, W0 = w.alloc (.cells #[.slice VA vs.length VC, .int .i64 ar, .slice PA m PC] 37) := ⟨_, rfl⟩
  have HX0 : Hid (Ext w W0) := by show Ext _ _; rw [hW0]; exact (Ext.refl w).alloc _
  have HR0 : Hid (Row W0 w.heap.size 37 [.slice VA vs.length VC, .int .i64 ar, .slice PA m PC]) := by show Row _ _ _ _; rw [hW0]; exact Row.new w _ _
  have k0 : W0.cell? ⟨w.heap.size, 0, none⟩ = some (.slice VA vs.length VC) := HR0.out.cell 0
  have k1 := HR0.out.lt
  have HV := Lib.hid hv
  have H32 := Lib.hid h32
  have HW0 := Lib.hid hW0
  clear hv h32 hW0
  go_enter Tryd.func28, Tryd.ntmps28
  go_upto_region 1 with (fail)
  rw [← HW0.out]
  clear HW0
  go_wp2_with fail
  go_loopw [3, 9] (fun vo c wx => ∃ k : Nat, k ≤ vs.length ∧ c = .int .i64 k ∧ vo = .int .u32 (setN (vs.take k) : Nat) ∧ wx = W0) (fun _ c _ => vs.length - (intOf c).toNat)
  case atStart => exact ⟨0, Nat.zero_le _, rfl, rfl, rfl⟩
  case round =>
    obtain ⟨k, hk, rfl, rfl, rfl⟩ := hrel
    by_cases hkl : k < vs.length
    · have r0 : (0 : Int) ≤ (k : Int) := by omega
      have r1 : (k : Int) < (vs.length : Int) := by omega
      have r3 : IntKind.i64.wrap ((k : Int) + 1) = ((k + 1 : Nat) : Int) := by rw [IntWalk.i64_in _ (by omega)]; omega
      obtain ⟨b, o, rfl, hb, hc⟩ := HV.out (by intro h0; have := congrArg List.length h0; simp only [List.length_map, List.length_nil] at this; omega)
      have c0 : w.cell? ⟨b, o + k, none⟩ = some (.int .i64 (vs[k] : Nat)) := hc k _ (by simp [hkl])
      have c0 := (HX0.out.cell hb).trans c0
      have c1 := Nat.lt_of_lt_of_le hb HX0.out.size
      have hv32 := H32.out _ (List.getElem_mem hkl)
      have HST : Hid (setN (vs.take (k + 1)) = setN (vs.take k) ||| 2 ^ vs[k]) := by show _ = _; rw [List.take_succ_eq_append_getElem hkl, setN_snoc]
      have HLT : Hid (setN (vs.take k) < 2 ^ 32) := setN_lt fun v hv => H32.out v (List.mem_of_mem_take hv)
      clear hc hb
      generalize vs[k] = v at *
      generalize setN (vs.take k) = s at *
      have HBT : Hid (bits BinOp.or IntKind.u32 (s : Int) ((2 : Int) ^ v % 4294967296) = ((s ||| 2 ^ v : Nat) : Int)) := by
        have h1 : (2 : Int) ^ v % 4294967296 = ((2 ^ v : Nat) : Int) := by
          have h2 : 2 ^ v < 2 ^ 32 := Nat.pow_lt_pow_right (by decide) hv32
          have h3 : ((2 ^ v : Nat) : Int) = (2 : Int) ^ v := by simp
          rw [← h3]
          exact Int.emod_eq_of_lt (Int.natCast_nonneg _) (Int.ofNat_lt.2 (show 2 ^ v < 4294967296 from h2))
        show _ = _
        rw [h1]
        exact u32_or_nat s (2 ^ v) HLT.out (Nat.pow_lt_pow_right (by decide) hv32)
      go_wp2_with fail
      go_roundw
      case rel => exact ⟨k + 1, hkl, by go_num, by rw [HST.out, HBT.out], trivial⟩
      case measure => simp [intOf]; omega
    · obtain rfl : k = vs.length := by omega
      have r1 : ¬ (vs.length : Int) < (vs.length : Int) := by omega
      rw [List.take_length]
      go_wp2_with fail
      exact bodyPost_ret (v := .int .u32 (setN vs : Nat)) (by simp [results, Tryd.results28, go_sem]) rfl ⟨rfl, HX0.out⟩

theorem colsF_succ (us ks : List Nat) (k : Nat) (h : k < us.length) : (List.range (k + 1)).filter (fun i => decide (us.getD i 0 ∈ ks)) = (List.range k).filter (fun i => decide (us.getD i 0 ∈ ks)) ++ (if us[k] ∈ ks then [k] else []) := by
  have e : us.getD k 0 = us[k] := by simp [h]
  rw [List.range_succ, List.filter_append]
  congr 1
  by_cases hm : us[k] ∈ ks
  · rw [if_pos hm, List.filter_cons_of_pos (by rw [e]; simpa using hm)]; rfl
  · rw [if_neg hm, List.filter_cons_of_neg (by rw [e]; simpa using hm)]; rfl

set_option maxHeartbeats 4000000 in
set_option maxRecDepth 100000 in
theorem sjColumns_any (VA PA : Option Addr) (VC PC m M : Nat) (ar : Int) (vs ks : List Nat) (w : World) (hv : SlI .i64 w.heap.size w VA (vs.map Int.ofNat)) (hl : vs.length ≤ 1000000) (h32 : ∀ v ∈ vs, v < 32) (hM : M < 4294967296) (hbit : ∀ v ∈ vs, M / 2 ^ v % 2 = if v ∈ ks then 1 else 0) :
    Calls Tryd.prog 42 #[.agg #[.slice VA vs.length VC, .int .i64 ar, .slice PA m PC], .int .u32 (M : Nat)] w fun e w' => ∃ v, e = .returned v ∧ w'.ownsRow w.heap.size 3 1 v (colsF vs ks).length ((colsF vs ks).map fun i : Nat => Value.int .i64 (i : Nat)) ∧ Below w.heap.size w w' := by
  obtain ⟨W0, hW0⟩ : ∃ W0, W0 = w.alloc (.cells #[.slice VA vs.length VC, .int .i64 ar, .slice PA m PC] 37) := ⟨_, rfl⟩
  have HX0 : Hid (Ext w W0) := by show Ext _ _; rw [hW0]; exact (Ext.refl w).alloc _
  have HR0 : Hid (Row W0 w.heap.size 37 [.slice VA vs.length VC, .int .i64 ar, .slice PA m PC]) := by show Row _ _ _ _; rw [hW0]; exact Row.new w _ _
  have k0 : W0.cell? ⟨w.heap.size, 0, none⟩ = some (.slice VA vs.length VC) := HR0.out.cell 0
  have k1 := HR0.out.lt
  have HV := Lib.hid hv
  have H32 := Lib.hid h32
  have HBI := Lib.hid hbit
  have HW0 := Lib.hid hW0
  obtain ⟨B, hB⟩ : ∃ B, B = W0.heap.size := ⟨_, rfl⟩
  have HBE := Lib.hid hB
  clear hv h32 hbit hW0 hB
  go_enter Tryd.func42, Tryd.ntmps42
  go_upto_region 1 with (fail)
  rw [← HW0.out]
  clear HW0
  go_wp2_with fail
  go_loopw [5, 11] (fun vo c wx => ∃ k : Nat, k ≤ vs.length ∧ c = .int .i64 k ∧ wx.ownsRow B 3 1 vo ((List.range k).filter fun i => decide (vs.getD i 0 ∈ ks)).length (((List.range k).filter fun i => decide (vs.getD i 0 ∈ ks)).map fun i : Nat => Value.int .i64 (i : Nat)) ∧ Below B W0 wx) (fun _ c _ => vs.length - (intOf c).toNat)
  case atStart => exact ⟨0, Nat.zero_le _, rfl, own_nil _ _ _ _, Below.refl _ _⟩
  case round =>
    obtain ⟨k, hk, rfl, ho, hbr⟩ := hrel
    have HO := Lib.hid ho
    have HBR := Lib.hid hbr
    clear ho hbr
    have hBz : B ≤ wr.heap.size := by have h1 := HBE.out; have h2 := HBR.out.size; omega
    by_cases hkl : k < vs.length
    · have r0 : (0 : Int) ≤ (k : Int) := by omega
      have r1 : (k : Int) < (vs.length : Int) := by omega
      have r3 : IntKind.i64.wrap ((k : Int) + 1) = ((k + 1 : Nat) : Int) := by rw [IntWalk.i64_in _ (by omega)]; omega
      obtain ⟨b, o, rfl, hb, hc⟩ := HV.out (by intro h0; have := congrArg List.length h0; simp only [List.length_map, List.length_nil] at this; omega)
      have c0 : w.cell? ⟨b, o + k, none⟩ = some (.int .i64 (vs[k] : Nat)) := hc k _ (by simp [hkl])
      have c0 := (HBR.out.cell (p := ⟨b, o + k, none⟩) (by have := HBE.out; have := HX0.out.size; show b < B; omega)).trans ((HX0.out.cell hb).trans c0)
      have c1 : b < wr.heap.size := by have := HX0.out.size; have := HBR.out.size; omega
      have hv32 := H32.out _ (List.getElem_mem hkl)
      have hbt := HBI.out _ (List.getElem_mem hkl)
      have HST := Lib.hid (colsF_succ vs ks k hkl)
      have HLE : Hid (((List.range k).filter fun i => decide (vs.getD i 0 ∈ ks)).length + 1 ≤ 1000001) := by
        have := List.length_filter_le (fun i => decide (vs.getD i 0 ∈ ks)) (List.range k)
        rw [List.length_range] at this
        show _ ≤ _
        omega
      clear hc hb
      generalize vs[k] = v at *
      generalize ((List.range k).filter fun i => decide (vs.getD i 0 ∈ ks)) = cs at *
      have s0 : (0 : Int) ≤ (v : Int) := by omega
      have s1 : (v : Int) ≤ 32 := by omega
      have HBT := Lib.hid hbt
      clear hbt
      have HQ : Hid ((bits BinOp.and IntKind.u32 ((M : Int) / (2 : Int) ^ v) 1 == 1) = decide (v ∈ ks)) := by
        have h1 : (M : Int) / (2 : Int) ^ v = ((M / 2 ^ v : Nat) : Int) := by
          have h3 : ((2 ^ v : Nat) : Int) = (2 : Int) ^ v := by simp
          rw [← h3]
          exact (Int.natCast_ediv M (2 ^ v)).symm
        have h2 := u32_and_nat (M / 2 ^ v) 1 (Nat.lt_of_le_of_lt (Nat.div_le_self _ _) hM) (by decide)
        show _ = _
        rw [h1]
        have h4 : bits BinOp.and IntKind.u32 ((M / 2 ^ v : Nat) : Int) 1 = ((M / 2 ^ v % 2 : Nat) : Int) := by
          rw [← Nat.and_one_is_mod]
          exact h2
        rw [h4, HBT.out]
        by_cases hm : v ∈ ks
        · rw [if_pos hm, decide_eq_true hm]; rfl
        · rw [if_neg hm, decide_eq_false hm]; rfl
      have k0 := (HR0.out.below HBR.out (by have := HBE.out; omega)).cell 0
      by_cases hm : v ∈ ks
      · have q := HQ.out
        rw [decide_eq_true hm] at q
        have HST2 := HST.out
        rw [if_pos hm] at HST2
        have HST2 := Lib.hid HST2
        clear HST HQ k0
        go_wp2_with (first
          | (at_builtin; go_loud (refine app1Int27 rfl (.tmp 21) (.tmp 23) rfl B u5 cs.length (cs.map fun i : Nat => Value.int .i64 (i : Nat)) rfl (by exact own_keep HO.out ((Ext.refl wr).alloc _).below) wr.heap.size (k : Int) rfl (by exact (Row.new wr 3 [.int .i64 (k : Nat)]).cell 0) (by have := HLE.out; omega) (by simp; omega) ?_); intro v5 w5 hown hg)
          | fail)
        have HO5 := Lib.hid hown
        have HB5 : Hid (Below B W0 w5) := by
          have hb1 : Below B W0 (wr.alloc (.cells #[.int .i64 (k : Nat)] 3)) := Below.then HBR.out ((Ext.refl wr).alloc _).below hBz
          exact hb1.grown hg (by simp; omega) (fun j hj => own_base HO.out hj)
        clear hown hg
        go_wp2_with fail
        go_roundw
        case rel => exact ⟨k + 1, hkl, by go_num, by rw [HST2.out, List.length_append, List.map_append]; exact HO5.out, HB5.out⟩
        case measure => simp [intOf]; omega
      · have q := HQ.out
        rw [decide_eq_false hm] at q
        have HST2 := HST.out
        rw [if_neg hm, List.append_nil] at HST2
        have HST2 := Lib.hid HST2
        clear HST HQ k0
        go_wp2_with fail
        go_roundw
        case rel => exact ⟨k + 1, hkl, by go_num, by rw [HST2.out]; exact HO.out, HBR.out⟩
        case measure => simp [intOf]; omega
    · obtain rfl : k = vs.length := by omega
      have r1 : ¬ (vs.length : Int) < (vs.length : Int) := by omega
      have HBW : Hid (Below w.heap.size w wr) := Below.then HX0.out.below (by have := HBR.out; rw [HBE.out] at this; exact this) HX0.out.size
      have HOW : Hid (wr.ownsRow w.heap.size 3 1 u5 (colsF vs ks).length ((colsF vs ks).map fun i : Nat => Value.int .i64 (i : Nat))) := own_weaken HO.out (by have h1 := HBE.out; have h2 := HX0.out.size; omega)
      clear HO
      go_wp2_with fail
      go_ret
      exact ⟨_, rfl, HOW.out, HBW.out⟩

end Go.Proofs.YthgaflmldbgbnaaDoor
end

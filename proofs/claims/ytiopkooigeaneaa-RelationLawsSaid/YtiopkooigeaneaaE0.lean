/- Words for calls that only make memory and draw: the world grows. Rows of values, lists of rows and relations as they lie in memory. -/
import Derived.Test.YtiopkooigeaneaaBase
import Derived.Test.YtiopkooigeaneaaRPlain
import Derived.Sort.Grow
namespace Go.Proofs.Ytiopkooigeaneaa
open Go.RowKit Go.Sort

/-- The later world is the earlier one with new blocks behind it, and some answers drawn. -/
def Ext (w w' : World) : Prop := ∃ q os, w' = grow (w.drewN q) os

theorem Ext.refl (w : World) : Ext w w := ⟨0, #[], by rw [grow_empty]; rfl⟩
theorem grow_drewN (w : World) (os : Array Obj) (n : Nat) : (grow w os).drewN n = grow (w.drewN n) os := rfl
theorem Ext.trans {a b c : World} (h : Ext a b) (k : Ext b c) : Ext a c := by
  obtain ⟨q, os, rfl⟩ := h
  obtain ⟨q', os', rfl⟩ := k
  exact ⟨q + q', os ++ os', by rw [grow_drewN, grow_grow, World.drewN_drewN]⟩
theorem Ext.alloc {a w : World} (h : Ext a w) (o : Obj) : Ext a (w.alloc o) := h.trans ⟨0, #[o], by rw [alloc_eq_grow]; rfl⟩
theorem Ext.drewN {a w : World} (h : Ext a w) (n : Nat) : Ext a (w.drewN n) := h.trans ⟨n, #[], by rw [grow_empty]⟩
theorem Ext.drew {a w : World} (h : Ext a w) : Ext a w.drew := h.drewN 1
theorem Ext.size {a w : World} (h : Ext a w) : a.heap.size ≤ w.heap.size := by
  obtain ⟨q, os, rfl⟩ := h
  simp [grow, World.drewN]
theorem Ext.below {a w : World} (h : Ext a w) : Below a.heap.size a w := by
  obtain ⟨q, os, rfl⟩ := h
  refine ⟨rfl, rfl, rfl, by simp [grow, World.drewN], fun k hk => ?_⟩
  exact heap_grow_old (a.drewN q) os hk
theorem Ext.cell {a w : World} (h : Ext a w) {b o : Nat} (hb : b < a.heap.size) : w.cell? ⟨b, o, none⟩ = a.cell? ⟨b, o, none⟩ := h.below.cell (p := ⟨b, o, none⟩) hb
theorem Ext.frozen {a w : World} (h : Ext a w) {b o : Nat} (hb : b < a.heap.size) : w.frozen? ⟨b, o, none⟩ = a.frozen? ⟨b, o, none⟩ := h.below.frozen (p := ⟨b, o, none⟩) hb
/-- The rules by which the walk reads old cells in a later world. -/
theorem Ext.rules {W w1 : World} (h : Ext W w1) : (∀ b o, b < W.heap.size → w1.cell? ⟨b, o, none⟩ = W.cell? ⟨b, o, none⟩) ∧ (∀ b o, b < W.heap.size → w1.frozen? ⟨b, o, none⟩ = W.frozen? ⟨b, o, none⟩) :=
  ⟨fun _ _ hb => h.cell hb, fun _ _ hb => h.frozen hb⟩
theorem Sl.ext {B : Nat} {w w' : World} {A : Option Addr} {xs : List Value} (h : Sl B w A xs) (hB : B ≤ w.heap.size) (he : Ext w w') : Sl B w' A xs := h.below he.below hB

/-- A value as a Go struct by value, and its three cells. -/
abbrev vv (v : RL.V) : Value := .agg #[.int .i64 v.kind, .int .i64 v.int, .string v.str]
def vcells (v : RL.V) : List Value := [.int .i64 v.kind, .int .i64 v.int, .string v.str]
def rcells (x : RL.R) : List Value := x.flatMap vcells
theorem rcells_length (x : RL.R) : (rcells x).length = x.length * 3 := by
  induction x with
  | nil => rfl
  | cons v x ih => simp [rcells, vcells] at *; omega
theorem rcells_cons (v : RL.V) (x : RL.R) : rcells (v :: x) = vcells v ++ rcells x := by simp [rcells]
theorem rcells_append (x y : RL.R) : rcells (x ++ y) = rcells x ++ rcells y := by simp [rcells]
theorem rcells_get (x : RL.R) (i : Nat) (v : RL.V) (h : x[i]? = some v) : (rcells x)[i * 3]? = some (.int .i64 v.kind) ∧ (rcells x)[i * 3 + 1]? = some (.int .i64 v.int) ∧ (rcells x)[i * 3 + 2]? = some (.string v.str) := by
  induction x generalizing i with
  | nil => simp at h
  | cons u x ih =>
    rw [rcells_cons]
    cases i with
    | zero => simp at h; subst h; simp [vcells]
    | succ i =>
      simp at h
      have := ih i h
      have e1 : (i + 1) * 3 = i * 3 + 3 := by omega
      have e2 : (i + 1) * 3 + 1 = i * 3 + 1 + 3 := by omega
      have e3 : (i + 1) * 3 + 2 = i * 3 + 2 + 3 := by omega
      rw [e3]
      rw [show i * 3 + 3 + 1 = i * 3 + 1 + 3 by omega] at *
      simp only [e1, vcells] at *
      refine ⟨?_, ?_, ?_⟩
      · rw [List.getElem?_append_right (by simp)]; simpa using this.1
      · rw [List.getElem?_append_right (by simp)]; simpa using this.2.1
      · rw [List.getElem?_append_right (by simp)]; simpa using this.2.2
theorem rcells_one (x : RL.R) : ∀ u ∈ rcells x, u.oneCell' = true := by
  intro u hu
  simp [rcells, vcells] at hu
  obtain ⟨v, _, h⟩ := hu
  rcases h with rfl | rfl | rfl <;> rfl
theorem rcells_drop (x : RL.R) (k : Nat) : rcells (x.drop k) = (rcells x).drop (k * 3) := by
  induction x generalizing k with
  | nil => simp [rcells]
  | cons v x ih =>
    cases k with
    | zero => simp
    | succ k => rw [List.drop_succ_cons, ih, rcells_cons, show (k + 1) * 3 = k * 3 + 3 by omega, ← List.drop_drop]; simp [vcells]
theorem rcells_take (x : RL.R) (k : Nat) : rcells (x.take k) = (rcells x).take (k * 3) := by
  induction x generalizing k with
  | nil => simp [rcells]
  | cons v x ih =>
    cases k with
    | zero => simp [rcells]
    | succ k => rw [List.take_succ_cons, rcells_cons, ih, rcells_cons, show (k + 1) * 3 = k * 3 + 3 by omega]; simp [vcells]

/-- The slice at address A reads as the row x (three cells a value). -/
def SlR (B : Nat) (w : World) (A : Option Addr) (x : RL.R) : Prop := Sl B w A (rcells x)
theorem SlR.nil {B : Nat} {w : World} {A : Option Addr} : SlR B w A [] := Sl.nil
theorem SlR.ext {B : Nat} {w w' : World} {A : Option Addr} {x : RL.R} (h : SlR B w A x) (hB : B ≤ w.heap.size) (he : Ext w w') : SlR B w' A x := Sl.ext h hB he
theorem SlR.below {B C : Nat} {w w' : World} {A : Option Addr} {x : RL.R} (h : SlR B w A x) (hb : Below C w w') (hC : B ≤ C) : SlR B w' A x := Sl.below h hb hC
theorem SlR.more {B B' : Nat} {w : World} {A : Option Addr} {x : RL.R} (h : SlR B w A x) (hB : B ≤ B') : SlR B' w A x := Sl.more h hB
theorem slR_at {B : Nat} {w : World} {A : Option Addr} {x : RL.R} (h : SlR B w A x) {i : Nat} (hi : i < x.length) :
    ∃ b o, A = some ⟨b, o, none⟩ ∧ b < B ∧ w.cell? ⟨b, o + i * 3, none⟩ = some (.int .i64 x[i].kind) ∧ w.cell? ⟨b, o + i * 3 + 1, none⟩ = some (.int .i64 x[i].int) ∧ w.cell? ⟨b, o + i * 3 + 2, none⟩ = some (.string x[i].str) := by
  obtain ⟨b, o, e, hb, hc⟩ := h (by intro h0; have := congrArg List.length h0; rw [rcells_length] at this; simp only [List.length_nil] at this; omega)
  obtain ⟨g1, g2, g3⟩ := rcells_get x i x[i] (List.getElem?_eq_getElem hi)
  exact ⟨b, o, e, hb, hc _ _ g1, by rw [Nat.add_assoc]; exact hc _ _ g2, by rw [Nat.add_assoc]; exact hc _ _ g3⟩
theorem SlR.drop {B : Nat} {w : World} {b o : Nat} {x : RL.R} (h : SlR B w (some ⟨b, o, none⟩) x) (k : Nat) : SlR B w (some ⟨b, o + k * 3, none⟩) (x.drop k) := by
  intro hn
  obtain ⟨b', o', e, hb, hc⟩ := h (by intro h0; apply hn; rw [rcells_drop, h0]; simp)
  simp at e
  obtain ⟨rfl, rfl⟩ := e
  refine ⟨b, o + k * 3, rfl, hb, fun i u hu => ?_⟩
  rw [rcells_drop, List.getElem?_drop] at hu
  rw [Nat.add_assoc]
  exact hc _ _ hu
theorem SlR.take {B : Nat} {w : World} {A : Option Addr} {x : RL.R} (h : SlR B w A x) (k : Nat) : SlR B w A (x.take k) := by
  intro hn
  obtain ⟨b', o', e, hb, hc⟩ := h (by intro h0; apply hn; rw [rcells_take, h0]; simp)
  refine ⟨b', o', e, hb, fun i u hu => ?_⟩
  rw [rcells_take] at hu
  exact hc _ _ (by
    rw [List.getElem?_take] at hu
    split at hu
    · exact hu
    · cases hu)

end Go.Proofs.Ytiopkooigeaneaa

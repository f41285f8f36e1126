/- Parts of the proof, merged: Base, RPlain, E0, Shelf, V1, V3, E1, RSort, E2, V5, V6, V7, V8. -/
import Derived.WalkKit
import Derived.WalkSpells
import Derived.WalkLawsBesides
import Derived.Deep.QuietTactic
import Derived.BigQuiet
import Derived.Lib.Hide
import Derived.Lib.Bytealg
import Derived.Sort.Grow
import Derived.Shelf.Small.Strs
import Derived.Shelf.Small.Wraps
import Derived.Shelf.SlicesE.Clone
import Derived.Shelf.SlSorted.Search
import Derived.Shelf.SlCmpFuncs.IsSortedFunc
import Derived.Shelf.SlCmpFuncs.None
import Derived.Test.YthgaflmldbgbnaaGreatDoorProg
import Derived.StillTailTactics
import Derived.Outline
import Derived.Deep.AppendLies
import Derived.Deep.RegionHeld3

set_option maxRecDepth 100000
namespace Go.Proofs.YthgaflmldbgbnaaGreatDoor
section
open Go.RowKit

def Sl (B : Nat) (w : World) (A : Option Addr) (xs : List Value) : Prop :=
  xs ≠ [] → ∃ b o, A = some ⟨b, o, none⟩ ∧ b < B ∧ ∀ i u, xs[i]? = some u → w.cell? ⟨b, o + i, none⟩ = some u

theorem Sl.nil {B : Nat} {w : World} {A : Option Addr} : Sl B w A [] := fun h => absurd rfl h

theorem Sl.keep {B : Nat} {w w' : World} {A : Option Addr} {xs : List Value} (h : Sl B w A xs) (hk : ∀ p : Addr, p.block < B → w'.cell? p = w.cell? p) : Sl B w' A xs := fun hn => by
  obtain ⟨b, o, e, hb, hc⟩ := h hn
  exact ⟨b, o, e, hb, fun i u hu => (hk _ hb).trans (hc i u hu)⟩

theorem Sl.more {B B' : Nat} {w : World} {A : Option Addr} {xs : List Value} (h : Sl B w A xs) (hB : B ≤ B') : Sl B' w A xs := fun hn => by
  obtain ⟨b, o, e, hb, hc⟩ := h hn
  exact ⟨b, o, e, by omega, hc⟩

theorem Sl.below {B C : Nat} {w w' : World} {A : Option Addr} {xs : List Value} (h : Sl B w A xs) (hb : Below C w w') (hC : B ≤ C) : Sl B w' A xs :=
  h.keep fun _ hp => hb.cell (by omega)

theorem Sl.alloc {B : Nat} {w : World} {A : Option Addr} {xs : List Value} (h : Sl B w A xs) (hB : B ≤ w.heap.size) (o : Obj) : Sl B (w.alloc o) A xs :=
  h.keep fun p hp => World.cell?_alloc_lt w o p (by omega)

theorem Sl.setCell {B : Nat} {w : World} {A : Option Addr} {xs : List Value} (h : Sl B w A xs) {p : Addr} (hB : B ≤ p.block) (u : Value) : Sl B (w.setCell p u) A xs :=
  h.keep fun q hq => World.cell?_setCell_other w p q u (fun e => by subst e; omega)

theorem Sl.drew {B : Nat} {w : World} {A : Option Addr} {xs : List Value} (h : Sl B w A xs) : Sl B w.drew A xs := h
theorem Sl.at_ {B : Nat} {w : World} {A : Option Addr} {xs : List Value} (h : Sl B w A xs) {k : Nat} (hk : k < xs.length) :
    ∃ b o, A = some ⟨b, o, none⟩ ∧ b < B ∧ w.cell? ⟨b, o + k, none⟩ = some xs[k] := by
  obtain ⟨b, o, e, hb, hc⟩ := h (by intro h0; subst h0; simp at hk)
  exact ⟨b, o, e, hb, hc k _ (List.getElem?_eq_getElem hk)⟩

abbrev SlI (k : IntKind) (B : Nat) (w : World) (A : Option Addr) (zs : List Int) : Prop := Sl B w A (zs.map (Value.int k))

theorem slI_at {k : IntKind} {B : Nat} {w : World} {A : Option Addr} {zs : List Int} (h : SlI k B w A zs) {i : Nat} (hi : i < zs.length) :
    ∃ b o, A = some ⟨b, o, none⟩ ∧ b < B ∧ w.cell? ⟨b, o + i, none⟩ = some (.int k zs[i]) := by
  obtain ⟨b, o, e, hb, hc⟩ := Sl.at_ h (k := i) (by simpa using hi)
  exact ⟨b, o, e, hb, by simpa using hc⟩

abbrev SlN (k : IntKind) (B : Nat) (w : World) (A : Option Addr) (zs : List Nat) : Prop := Sl B w A (zs.map fun z : Nat => Value.int k (z : Int))

theorem slN_at {k : IntKind} {B : Nat} {w : World} {A : Option Addr} {zs : List Nat} (h : SlN k B w A zs) {i : Nat} (hi : i < zs.length) :
    ∃ b o, A = some ⟨b, o, none⟩ ∧ b < B ∧ w.cell? ⟨b, o + i, none⟩ = some (.int k (zs[i] : Int)) := by
  obtain ⟨b, o, e, hb, hc⟩ := Sl.at_ h (k := i) (by simpa using hi)
  exact ⟨b, o, e, hb, by simpa using hc⟩

def Row (w : World) (g : Nat) (e : TypeId) (xs : List Value) : Prop := w.heap[g]? = some (.cells xs.toArray e (0, 0))

section
variable {w w' : World} {g : Nat} {e : TypeId} {xs : List Value}
theorem Row.lt (h : Row w g e xs) : g < w.heap.size := by
  rcases Nat.lt_or_ge g w.heap.size with hlt | hge
  · exact hlt
  · unfold Row at h; rw [Array.getElem?_eq_none hge] at h; cases h
theorem Row.cell (h : Row w g e xs) (i : Nat) : w.cell? ⟨g, i, none⟩ = xs[i]? := by
  unfold Row at h
  simp [World.cell?, h]
theorem Row.cell_ (h : Row w g e xs) {i : Nat} (hi : i < xs.length) : w.cell? ⟨g, i, none⟩ = some xs[i] := by
  rw [h.cell, List.getElem?_eq_getElem hi]
theorem Row.frozen (h : Row w g e xs) (i : Nat) : w.frozen? ⟨g, i, none⟩ = false := by
  unfold Row at h
  simp [World.frozen?, h]
theorem Row.new (w : World) (e : TypeId) (xs : List Value) : Row (w.alloc (.cells xs.toArray e)) w.heap.size e xs := heap_alloc_new w _
theorem Row.alloc (h : Row w g e xs) (o : Obj) : Row (w.alloc o) g e xs := (Below.heap_alloc w o g h.lt).trans h
theorem Row.drew (h : Row w g e xs) : Row w.drew g e xs := h
theorem Row.drewN (h : Row w g e xs) (n : Nat) : Row (w.drewN n) g e xs := h
theorem Row.set (h : Row w g e xs) (i : Nat) (u : Value) : Row (w.setCell ⟨g, i, none⟩ u) g e (xs.set i u) := by
  unfold Row at h ⊢
  simp [World.setCell, Array.getElem?_modify, h]
theorem Row.far (h : Row w g e xs) {p : Addr} (hp : g ≠ p.block) (u : Value) : Row (w.setCell p u) g e xs := (Below.heap_setCell w p u g hp).trans h
theorem Row.below {B : Nat} (h : Row w g e xs) (hb : Below B w w') (hg : g < B) : Row w' g e xs := (hb.block g hg).trans h
theorem Row.grown {row : Option Nat} (h : Row w g e xs) (hb : w.grownBy w' row) (hg : some g ≠ row) : Row w' g e xs := (hb.block g h.lt hg).trans h
end

def zerosA (z : Value) (n : Nat) : Array Value := (List.replicate n z).toArray
theorem Row.zeros (w : World) (e : TypeId) (z : Value) (n : Nat) : Row (w.alloc (.cells (zerosA z n) e)) w.heap.size e (List.replicate n z) := heap_alloc_new w _
theorem zeros_made (z : Value) (n : Nat) (hz : z.cells = #[z]) : madeCells z.cells (n * 1) = zerosA z n := by
  rw [hz, Nat.mul_one]
  unfold madeCells zerosA
  apply Array.ext
  · simp
  · intro i h1 h2
    simp [Nat.mod_one]

theorem own_base {w : World} {base : Nat} {e : TypeId} {size : Nat} {v : Value} {n : Nat} {xs : List Value} (h : w.ownsRow base e size v n xs) {k : Nat} (hk : v.ownBlock = some k) : base ≤ k := by
  rcases h.2 with ⟨rfl, _⟩ | ⟨g, cap, cur, rfl, hg, _⟩
  · simp [Value.ownBlock] at hk
  · simp [Value.ownBlock] at hk; omega

theorem own_weaken {w : World} {base base' : Nat} {e : TypeId} {size : Nat} {v : Value} {n : Nat} {xs : List Value} (h : w.ownsRow base e size v n xs) (hb : base' ≤ base) : w.ownsRow base' e size v n xs := by
  refine ⟨h.1, ?_⟩
  rcases h.2 with h1 | ⟨g, cap, cur, h1, h2, h3⟩
  · exact .inl h1
  · exact .inr ⟨g, cap, cur, h1, by omega, h3⟩

theorem own_nil (w : World) (base : Nat) (e : TypeId) (size : Nat) : w.ownsRow base e size (.slice none 0 0) 0 [] := ⟨by simp, .inl ⟨rfl, rfl⟩⟩

theorem grown_cell {w w' : World} {row : Option Nat} (hg : w.grownBy w' row) {p : Addr} (hp : p.block < w.heap.size) (hne : some p.block ≠ row) : w'.cell? p = w.cell? p :=
  World.cell?_of_block (hg.block p.block hp hne)

theorem app_kept {w w' : World} {v : Value} {B : Nat} {o : Obj} (hv : ∀ k, v.ownBlock = some k → B ≤ k) (hB : B ≤ w.heap.size) (hg : (w.alloc o).grownBy w' v.ownBlock) : Below B w w' :=
  ((Below.refl B w).alloc hB o).grown hg (by simp; omega) hv

theorem app_kept2 {w w' : World} {v : Value} {B : Nat} {o o2 : Obj} (hv : ∀ k, v.ownBlock = some k → B ≤ k) (hB : B ≤ w.heap.size) (hg : ((w.alloc o).alloc o2).grownBy w' v.ownBlock) : Below B w w' :=
  (((Below.refl B w).alloc hB o).alloc (by simp; omega) o2).grown hg (by simp; omega) hv

def lenOf : Value → Nat | .slice _ n _ => n | _ => 0
theorem own_len {w : World} {base : Nat} {e : TypeId} {size : Nat} {v : Value} {n : Nat} {xs : List Value} (h : w.ownsRow base e size v n xs) : lenOf v = n := by
  rcases h.2 with ⟨rfl, h0⟩ | ⟨g, cap, cur, rfl, hg, _⟩
  · simp [lenOf, h0]
  · rfl

theorem Sl.of_own {w : World} {base : Nat} {e : TypeId} {v : Value} {n : Nat} {xs : List Value} (h : w.ownsRow base e 1 v n xs) :
    ∃ A c, v = .slice A xs.length c ∧ xs.length ≤ c ∧ n = xs.length ∧ Sl w.heap.size w A xs := by
  have hn : n = xs.length := by have := h.1; omega
  subst hn
  rcases h.2 with ⟨rfl, h0⟩ | ⟨g, cap, cur, rfl, hg, hh, hnc, _, hsz, ht⟩
  · refine ⟨none, 0, by rw [h0], by omega, rfl, ?_⟩
    rw [List.eq_nil_of_length_eq_zero h0]
    exact Sl.nil
  · refine ⟨_, cap, rfl, hnc, rfl, fun _ => ⟨g, 0, rfl, ?_, fun i u hu => ?_⟩⟩
    · rcases Nat.lt_or_ge g w.heap.size with hlt | hge
      · exact hlt
      · rw [Array.getElem?_eq_none hge] at hh; cases hh
    · have hi := (List.getElem?_eq_some_iff.1 hu).1
      rw [← ht, List.getElem?_take_of_lt (by omega)] at hu
      simp [World.cell?, hh]
      simpa using hu

theorem Below.undrew {B : Nat} {a b : World} (h : Below B a.drew b) : Below B a b := ⟨h.os, h.tape, h.output, h.size, h.block⟩
theorem Below.box {w w' : World} {o : Obj} {C : Nat} (hb : Below C (w.alloc o) w') (hC : w.heap.size ≤ C) : Below w.heap.size w w' :=
  ((Below.refl _ _).alloc (Nat.le_refl _) _).trans (hb.mono hC)
theorem Below.box2 {w w' : World} {o o2 : Obj} {C : Nat} (hb : Below C ((w.alloc o).alloc o2) w') (hC : w.heap.size ≤ C) : Below w.heap.size w w' :=
  (((Below.refl _ _).alloc (Nat.le_refl _) _).alloc (by simp) _).trans (hb.mono hC)
theorem Below.then {B C : Nat} {a b c : World} (h : Below B a b) (k : Below C b c) (hC : B ≤ C) : Below B a c := h.trans (k.mono hC)

theorem Sl.of_own_n {w : World} {base size : Nat} {e : TypeId} {v : Value} {n : Nat} {xs : List Value} (h : w.ownsRow base e size v n xs) :
    ∃ A c, v = .slice A n c ∧ n ≤ c ∧ Sl w.heap.size w A xs := by
  rcases h.2 with ⟨rfl, h0⟩ | ⟨g, cap, cur, rfl, hg, hh, hnc, _, hsz, ht⟩
  · refine ⟨none, 0, by rw [h0], by omega, ?_⟩
    have hx : xs.length = 0 := by have := h.1; rw [h0] at this; simpa using this
    rw [List.eq_nil_of_length_eq_zero hx]
    exact Sl.nil
  · refine ⟨_, cap, rfl, hnc, fun _ => ⟨g, 0, rfl, ?_, fun i u hu => ?_⟩⟩
    · rcases Nat.lt_or_ge g w.heap.size with hlt | hge
      · exact hlt
      · rw [Array.getElem?_eq_none hge] at hh; cases hh
    · have hi := (List.getElem?_eq_some_iff.1 hu).1
      have hl : xs.length = n * size := h.1
      rw [← ht, List.getElem?_take_of_lt (by omega)] at hu
      simp [World.cell?, hh]
      simpa using hu

theorem Row.sl {w : World} {g : Nat} {e : TypeId} {xs : List Value} (h : Row w g e xs) : Sl w.heap.size w (some ⟨g, 0, none⟩) xs :=
  fun _ => ⟨g, 0, rfl, h.lt, fun i u hu => by rw [Nat.zero_add, h.cell]; exact hu⟩
theorem own_below {w w' : World} {base C : Nat} {e : TypeId} {size : Nat} {v : Value} {n : Nat} {xs : List Value} (h : w.ownsRow base e size v n xs) (hb : Below C w w') (hC : ∀ k, v.ownBlock = some k → k < C) : w'.ownsRow base e size v n xs := by
  refine ⟨h.1, ?_⟩
  rcases h.2 with h1 | ⟨g, cap, cur, h1, h2, h3, h4⟩
  · exact .inl h1
  · refine .inr ⟨g, cap, cur, h1, h2, ?_, h4⟩
    rw [hb.block g (hC g (by rw [h1]; rfl))]
    exact h3
theorem own_lt {w : World} {base : Nat} {e : TypeId} {size : Nat} {v : Value} {n : Nat} {xs : List Value} (h : w.ownsRow base e size v n xs) : ∀ k, v.ownBlock = some k → k < w.heap.size := fun k hk => (h.lt k hk).2
theorem own_keep {w w' : World} {base : Nat} {e : TypeId} {size : Nat} {v : Value} {n : Nat} {xs : List Value} (h : w.ownsRow base e size v n xs) (hb : Below w.heap.size w w') : w'.ownsRow base e size v n xs := own_below h hb (own_lt h)
theorem own_far {w : World} {base : Nat} {e : TypeId} {size : Nat} {v : Value} {n : Nat} {xs : List Value} (h : w.ownsRow base e size v n xs) {p : Addr} (hp : v.ownBlock ≠ some p.block) (u : Value) : (w.setCell p u).ownsRow base e size v n xs := by
  refine ⟨h.1, ?_⟩
  rcases h.2 with h1 | ⟨g, cap, cur, h1, h2, h3, h4⟩
  · exact .inl h1
  · refine .inr ⟨g, cap, cur, h1, h2, ?_, h4⟩
    rw [Below.heap_setCell _ _ _ _ (fun e => hp (by rw [h1, ← e]; rfl))]
    exact h3

theorem far_cell {w : World} {p q : Addr} {u : Value} {v : Option Value} (hne : p.block ≠ q.block) (h : w.cell? q = v) : (w.setCell p u).cell? q = v :=
  (World.cell?_setCell_other w p q u (fun e => hne (by rw [e]))).trans h
theorem ret_int {k : IntKind} {a b : Int} (h : a = b) : Ending.returned (.int k a) = .returned (.int k b) := by rw [h]
theorem ret_bool {a b : Bool} (h : a = b) : Ending.returned (.bool a) = .returned (.bool b) := by rw [h]
theorem Below.drewN' {B : Nat} {a w : World} (h : Below B a w) (n : Nat) : Below B a (w.drewN n) := ⟨h.os, h.tape, h.output, h.size, h.block⟩

def U32s (zs : List Nat) : Prop := ∀ z ∈ zs, z ≤ 4294967295
end
end Go.Proofs.YthgaflmldbgbnaaGreatDoor
section
namespace Go.Proofs.YthgaflmldbgbnaaGreatDoor.RL

structure Tot {α : Type} (c : α → α → Int) : Prop where
  z : ∀ a b, c a b = 0 ↔ a = b
  sw : ∀ a b, c b a = - c a b
  tr : ∀ a b d, c a b < 0 → c b d < 0 → c a d < 0
  rg : ∀ a b, c a b = -1 ∨ c a b = 0 ∨ c a b = 1

section
variable {α : Type} {c : α → α → Int} (T : Tot c)
include T
theorem Tot.self (a : α) : c a a = 0 := (T.z a a).2 rfl
theorem Tot.le_trans {a b d : α} (h1 : c a b ≤ 0) (h2 : c b d ≤ 0) : c a d ≤ 0 := by
  rcases Int.lt_or_eq_of_le h1 with h1 | h1
  · rcases Int.lt_or_eq_of_le h2 with h2 | h2
    · exact Int.le_of_lt (T.tr _ _ _ h1 h2)
    · rw [(T.z _ _).1 h2] at h1; exact Int.le_of_lt h1
  · rw [(T.z _ _).1 h1]; exact h2
theorem Tot.lt_of_le_of_lt {a b d : α} (h1 : c a b ≤ 0) (h2 : c b d < 0) : c a d < 0 := by
  rcases Int.lt_or_eq_of_le h1 with h1 | h1
  · exact T.tr _ _ _ h1 h2
  · rw [(T.z _ _).1 h1]; exact h2
end

def cmpI (a b : Int) : Int := if a < b then -1 else if b < a then 1 else 0
theorem tot_cmpI : Tot cmpI where
  z a b := by unfold cmpI; split <;> (try split) <;> omega
  sw a b := by unfold cmpI; split <;> split <;> (try split) <;> omega
  tr a b d := by unfold cmpI; split <;> split <;> (try split) <;> (try split) <;> omega
  rg a b := by unfold cmpI; split <;> (try split) <;> omega

def cmpL {α : Type} (c : α → α → Int) : List α → List α → Int
  | [], [] => 0
  | [], _ :: _ => -1
  | _ :: _, [] => 1
  | a :: x, b :: y => if c a b = 0 then cmpL c x y else c a b

theorem tot_cmpL {α : Type} {c : α → α → Int} (T : Tot c) : Tot (cmpL c) where
  z := by
    intro x
    induction x with
    | nil => intro y; cases y <;> simp [cmpL]
    | cons a x ih =>
      intro y
      cases y with
      | nil => simp [cmpL]
      | cons b y =>
        simp only [cmpL]
        split
        · rename_i h; rw [ih, (T.z a b).1 h]; simp
        · rename_i h; rw [T.z] at h; simp [T.z, h]
  sw := by
    intro x
    induction x with
    | nil => intro y; cases y <;> simp [cmpL]
    | cons a x ih =>
      intro y
      cases y with
      | nil => simp [cmpL]
      | cons b y =>
        simp only [cmpL, T.sw a b]
        by_cases h : c a b = 0
        · rw [if_pos (by omega), if_pos h, ih]
        · rw [if_neg (by omega), if_neg h]
  tr := by
    intro x
    induction x with
    | nil => intro y d; cases y <;> cases d <;> simp [cmpL]
    | cons a x ih =>
      intro y d
      cases y with
      | nil => cases d <;> simp [cmpL]
      | cons b y =>
        cases d with
        | nil => simp [cmpL]
        | cons e d =>
          simp only [cmpL]
          intro h1 h2
          by_cases h : c a b = 0
          · rw [if_pos h] at h1
            rw [(T.z _ _).1 h]
            by_cases h' : c b e = 0
            · rw [if_pos h'] at h2 ⊢; exact ih y d h1 h2
            · rw [if_neg h'] at h2 ⊢; exact h2
          · rw [if_neg h] at h1
            by_cases h' : c b e = 0
            · rw [← (T.z _ _).1 h', if_neg h]; exact h1
            · rw [if_neg h'] at h2
              have := T.tr _ _ _ h1 h2
              rw [if_neg (by omega)]; exact this
  rg := by
    intro x
    induction x with
    | nil => intro y; cases y <;> simp [cmpL]
    | cons a x ih =>
      intro y
      cases y with
      | nil => simp [cmpL]
      | cons b y =>
        simp only [cmpL]
        split
        · exact ih y
        · exact T.rg a b

def cmpB (a b : UInt8) : Int := if a < b then -1 else if b < a then 1 else 0
theorem tot_cmpB : Tot cmpB where
  z a b := by unfold cmpB; simp only [UInt8.lt_iff_toNat_lt, ← UInt8.toNat_inj]; split <;> (try split) <;> omega
  sw a b := by unfold cmpB; simp only [UInt8.lt_iff_toNat_lt]; split <;> split <;> (try split) <;> omega
  tr a b d := by unfold cmpB; simp only [UInt8.lt_iff_toNat_lt]; split <;> split <;> (try split) <;> (try split) <;> omega
  rg a b := by unfold cmpB; split <;> (try split) <;> omega
theorem compareBytes_eq : ∀ x y : List UInt8, Lib.compareBytes x y = cmpL cmpB x y
  | [], [] => rfl
  | [], _ :: _ => rfl
  | _ :: _, [] => rfl
  | a :: x, b :: y => by
    simp only [Lib.compareBytes, cmpL, cmpB, compareBytes_eq x y]
    split
    · simp
    · split <;> simp

structure V where
  kind : Int
  int : Int
  str : ByteArray

theorem V.ext_iff {a b : V} : a = b ↔ a.kind = b.kind ∧ a.int = b.int ∧ a.str = b.str := by
  cases a; cases b; simp
instance : DecidableEq V := fun a b => decidable_of_iff (a.kind = b.kind ∧ a.int = b.int ∧ a.str = b.str) V.ext_iff.symm
instance : Inhabited V := ⟨⟨0, 0, ByteArray.empty⟩⟩

def cmpS (a b : ByteArray) : Int := Lib.compareBytes a.data.toList b.data.toList
theorem str_ext {a b : ByteArray} (h : a.data.toList = b.data.toList) : a = b := by
  cases a with | mk a => cases b with | mk b => simp at h; simp [h]
theorem tot_cmpS : Tot cmpS := by
  have T := tot_cmpL tot_cmpB
  refine ⟨fun a b => ?_, fun a b => ?_, fun a b d => ?_, fun a b => ?_⟩ <;> unfold cmpS <;> simp only [compareBytes_eq]
  · rw [T.z]; exact ⟨str_ext, fun h => by rw [h]⟩
  · exact T.sw _ _
  · exact T.tr _ _ _
  · exact T.rg _ _

def then2 (x y : Int) : Int := if x = 0 then y else x
theorem tot_pair {α β : Type} {c : α → α → Int} {d : β → β → Int} (T : Tot c) (U : Tot d) : Tot (fun p q : α × β => then2 (c p.1 q.1) (d p.2 q.2)) where
  z p q := by
    obtain ⟨a, b⟩ := p
    obtain ⟨a', b'⟩ := q
    simp only [then2, Prod.mk.injEq]
    split
    · rename_i h; rw [U.z, (T.z _ _).1 h]; simp
    · rename_i h; constructor
      · intro e; exact absurd e h
      · intro e; exact absurd ((T.z _ _).2 e.1) h
  sw p q := by
    simp only [then2, T.sw p.1 q.1, U.sw p.2 q.2]
    by_cases h : c p.1 q.1 = 0
    · rw [if_pos (by omega), if_pos h]
    · rw [if_neg (by omega), if_neg h]
  tr p q r := by
    simp only [then2]
    intro h1 h2
    by_cases h : c p.1 q.1 = 0
    · rw [if_pos h] at h1
      rw [(T.z _ _).1 h]
      by_cases h' : c q.1 r.1 = 0
      · rw [if_pos h'] at h2 ⊢; exact U.tr _ _ _ h1 h2
      · rw [if_neg h'] at h2 ⊢; exact h2
    · rw [if_neg h] at h1
      by_cases h' : c q.1 r.1 = 0
      · rw [← (T.z _ _).1 h', if_neg h]; exact h1
      · rw [if_neg h'] at h2
        have := T.tr _ _ _ h1 h2
        rw [if_neg (by omega)]; exact this
  rg p q := by
    simp only [then2]
    split
    · exact U.rg _ _
    · exact T.rg _ _

def cmpV (a b : V) : Int := then2 (cmpI a.kind b.kind) (then2 (cmpI a.int b.int) (cmpS a.str b.str))
theorem tot_cmpV : Tot cmpV := by
  have T := tot_pair tot_cmpI (tot_pair tot_cmpI tot_cmpS)
  refine ⟨fun a b => ?_, fun a b => ?_, fun a b d => ?_, fun a b => ?_⟩
  · have h := T.z (a.kind, a.int, a.str) (b.kind, b.int, b.str)
    simp only [Prod.mk.injEq] at h
    rw [V.ext_iff]
    exact h
  · exact T.sw (a.kind, a.int, a.str) (b.kind, b.int, b.str)
  · exact T.tr (a.kind, a.int, a.str) (b.kind, b.int, b.str) (d.kind, d.int, d.str)
  · exact T.rg (a.kind, a.int, a.str) (b.kind, b.int, b.str)
theorem cmpV_kind {a b : V} (h : a.kind ≠ b.kind) : cmpV a b = cmpI a.kind b.kind := by
  unfold cmpV then2
  rw [if_neg (fun e => h ((tot_cmpI.z _ _).1 e))]
theorem cmpV_int {a b : V} (h : a.kind = b.kind) (h2 : a.int ≠ b.int) : cmpV a b = cmpI a.int b.int := by
  unfold cmpV then2
  rw [if_pos ((tot_cmpI.z _ _).2 h), if_neg (fun e => h2 ((tot_cmpI.z _ _).1 e))]
theorem cmpV_str {a b : V} (h : a.kind = b.kind) (h2 : a.int = b.int) : cmpV a b = cmpS a.str b.str := by
  unfold cmpV then2
  rw [if_pos ((tot_cmpI.z _ _).2 h), if_pos ((tot_cmpI.z _ _).2 h2)]

def validV (v : V) : Bool := (decide (v.kind = 1) && decide (v.str.size = 0)) || (decide (v.kind = 2) && decide (v.int = 0) && decide (v.str.size ≤ 24))

abbrev R := List V
def cmpR (x y : R) : Int := cmpL cmpV x y
theorem tot_cmpR : Tot cmpR := tot_cmpL tot_cmpV

theorem cmpR_nil (y : R) : cmpR [] y = if y = [] then 0 else -1 := by cases y <;> simp [cmpR, cmpL]

end Go.Proofs.YthgaflmldbgbnaaGreatDoor.RL
end
namespace Go.Proofs.YthgaflmldbgbnaaGreatDoor
section
open Go.RowKit Go.Sort

def Ext (w w' : World) : Prop := ∃ q os, w' = grow (w.drewN q) os

theorem Ext.refl (w : World) : Ext w w := ⟨0, #[], by rw [grow_empty]; rfl⟩
theorem grow_drewN (w : World) (os : Array Obj) (n : Nat) : (grow w os).drewN n = grow (w.drewN n) os := rfl
theorem Ext.trans {a b c : World} (h : Ext a b) (k : Ext b c) : Ext a c := by
  obtain ⟨q, os, rfl⟩ := h
  obtain ⟨q', os', rfl⟩ := k
  exact ⟨q + q', os ++ os', by rw [grow_drewN, grow_grow, World.drewN_drewN]⟩
theorem Ext.alloc {a w : World} (h : Ext a w) (o : Obj) : Ext a (w.alloc o) := h.trans ⟨0, #[o], by rw [alloc_eq_grow]; rfl⟩
theorem Ext.drewN {a w : World} (h : Ext a w) (n : Nat) : Ext a (w.drewN n) := h.trans ⟨n, #[], by rw [grow_empty]⟩
theorem Ext.drew {a w : World} (h : Ext a w) : Ext a w.drew := h.drewN 1
theorem Ext.size {a w : World} (h : Ext a w) : a.heap.size ≤ w.heap.size := by
  obtain ⟨q, os, rfl⟩ := h
  simp [grow, World.drewN]
theorem Ext.below {a w : World} (h : Ext a w) : Below a.heap.size a w := by
  obtain ⟨q, os, rfl⟩ := h
  refine ⟨rfl, rfl, rfl, by simp [grow, World.drewN], fun k hk => ?_⟩
  exact heap_grow_old (a.drewN q) os hk
theorem Ext.cell {a w : World} (h : Ext a w) {b o : Nat} (hb : b < a.heap.size) : w.cell? ⟨b, o, none⟩ = a.cell? ⟨b, o, none⟩ := h.below.cell (p := ⟨b, o, none⟩) hb
theorem Ext.frozen {a w : World} (h : Ext a w) {b o : Nat} (hb : b < a.heap.size) : w.frozen? ⟨b, o, none⟩ = a.frozen? ⟨b, o, none⟩ := h.below.frozen (p := ⟨b, o, none⟩) hb
theorem Ext.rules {W w1 : World} (h : Ext W w1) : (∀ b o, b < W.heap.size → w1.cell? ⟨b, o, none⟩ = W.cell? ⟨b, o, none⟩) ∧ (∀ b o, b < W.heap.size → w1.frozen? ⟨b, o, none⟩ = W.frozen? ⟨b, o, none⟩) :=
  ⟨fun _ _ hb => h.cell hb, fun _ _ hb => h.frozen hb⟩
theorem Sl.ext {B : Nat} {w w' : World} {A : Option Addr} {xs : List Value} (h : Sl B w A xs) (hB : B ≤ w.heap.size) (he : Ext w w') : Sl B w' A xs := h.below he.below hB

abbrev vv (v : RL.V) : Value := .agg #[.int .i64 v.kind, .int .i64 v.int, .string v.str]
def vcells (v : RL.V) : List Value := [.int .i64 v.kind, .int .i64 v.int, .string v.str]
def rcells (x : RL.R) : List Value := x.flatMap vcells
theorem rcells_length (x : RL.R) : (rcells x).length = x.length * 3 := by
  induction x with
  | nil => rfl
  | cons v x ih => simp [rcells, vcells] at *; omega
theorem rcells_cons (v : RL.V) (x : RL.R) : rcells (v :: x) = vcells v ++ rcells x := by simp [rcells]
theorem rcells_append (x y : RL.R) : rcells (x ++ y) = rcells x ++ rcells y := by simp [rcells]
theorem rcells_get (x : RL.R) (i : Nat) (v : RL.V) (h : x[i]? = some v) : (rcells x)[i * 3]? = some (.int .i64 v.kind) ∧ (rcells x)[i * 3 + 1]? = some (.int .i64 v.int) ∧ (rcells x)[i * 3 + 2]? = some (.string v.str) := by
  induction x generalizing i with
  | nil => simp at h
  | cons u x ih =>
    rw [rcells_cons]
    cases i with
    | zero => simp at h; subst h; simp [vcells]
    | succ i =>
      simp at h
      have := ih i h
      have e1 : (i + 1) * 3 = i * 3 + 3 := by omega
      have e2 : (i + 1) * 3 + 1 = i * 3 + 1 + 3 := by omega
      have e3 : (i + 1) * 3 + 2 = i * 3 + 2 + 3 := by omega
      rw [e3]
      rw [show i * 3 + 3 + 1 = i * 3 + 1 + 3 by omega] at *
      simp only [e1, vcells] at *
      refine ⟨?_, ?_, ?_⟩
      · rw [List.getElem?_append_right (by simp)]; simpa using this.1
      · rw [List.getElem?_append_right (by simp)]; simpa using this.2.1
      · rw [List.getElem?_append_right (by simp)]; simpa using this.2.2
theorem rcells_one (x : RL.R) : ∀ u ∈ rcells x, u.oneCell' = true := by
  intro u hu
  simp [rcells, vcells] at hu
  obtain ⟨v, _, h⟩ := hu
  rcases h with rfl | rfl | rfl <;> rfl
def SlR (B : Nat) (w : World) (A : Option Addr) (x : RL.R) : Prop := Sl B w A (rcells x)
theorem SlR.nil {B : Nat} {w : World} {A : Option Addr} : SlR B w A [] := Sl.nil
theorem SlR.ext {B : Nat} {w w' : World} {A : Option Addr} {x : RL.R} (h : SlR B w A x) (hB : B ≤ w.heap.size) (he : Ext w w') : SlR B w' A x := Sl.ext h hB he
theorem SlR.below {B C : Nat} {w w' : World} {A : Option Addr} {x : RL.R} (h : SlR B w A x) (hb : Below C w w') (hC : B ≤ C) : SlR B w' A x := Sl.below h hb hC
theorem SlR.more {B B' : Nat} {w : World} {A : Option Addr} {x : RL.R} (h : SlR B w A x) (hB : B ≤ B') : SlR B' w A x := Sl.more h hB
theorem slR_at {B : Nat} {w : World} {A : Option Addr} {x : RL.R} (h : SlR B w A x) {i : Nat} (hi : i < x.length) :
    ∃ b o, A = some ⟨b, o, none⟩ ∧ b < B ∧ w.cell? ⟨b, o + i * 3, none⟩ = some (.int .i64 x[i].kind) ∧ w.cell? ⟨b, o + i * 3 + 1, none⟩ = some (.int .i64 x[i].int) ∧ w.cell? ⟨b, o + i * 3 + 2, none⟩ = some (.string x[i].str) := by
  obtain ⟨b, o, e, hb, hc⟩ := h (by intro h0; have := congrArg List.length h0; rw [rcells_length] at this; simp only [List.length_nil] at this; omega)
  obtain ⟨g1, g2, g3⟩ := rcells_get x i x[i] (List.getElem?_eq_getElem hi)
  exact ⟨b, o, e, hb, hc _ _ g1, by rw [Nat.add_assoc]; exact hc _ _ g2, by rw [Nat.add_assoc]; exact hc _ _ g3⟩
end
end Go.Proofs.YthgaflmldbgbnaaGreatDoor
section
namespace Go.Proofs
open Go.Shelf
def YthgaflmldbgbnaaGreatDoor.lStrCmp_ren : Go.Shelf.Ren := ⟨fun | 106 => 108 | 213 => 117 | 265 => 123 | n => n, fun | 9 => 9 | 3 => 3 | n => n, fun | n => n⟩
theorem YthgaflmldbgbnaaGreatDoor.lStrCmp : Go.Proofs.Lays.n106 Tryz.prog YthgaflmldbgbnaaGreatDoor.lStrCmp_ren := {
  mixed := by kernel_rfl
  f106 := Tryz.func108.trans (congrArg some (by kernel_rfl))
  f213 := Tryz.func117.trans (congrArg some (by kernel_rfl))
  f265 := Tryz.func123.trans (congrArg some (by kernel_rfl))
  t3 := Tryz.underlying3
  a3 := Tryz.isAgg3
  z3 := Tryz.sizeOf3
  v3 := Tryz.zeroValue3
  t9 := Tryz.underlying9
  a9 := Tryz.isAgg9
  z9 := Tryz.sizeOf9
  v9 := Tryz.zeroValue9 }
def YthgaflmldbgbnaaGreatDoor.lCmpInt_ren : Go.Shelf.Ren := ⟨fun | 122 => 106 | 215 => 115 | n => n, fun | 3 => 3 | 4 => 4 | n => n, fun | n => n⟩
theorem YthgaflmldbgbnaaGreatDoor.lCmpInt : Go.Proofs.Lays.n122 Tryz.prog YthgaflmldbgbnaaGreatDoor.lCmpInt_ren := {
  mixed := by kernel_rfl
  f122 := Tryz.func106.trans (congrArg some (by kernel_rfl))
  f215 := Tryz.func115.trans (congrArg some (by kernel_rfl))
  t3 := Tryz.underlying3
  a3 := Tryz.isAgg3
  z3 := Tryz.sizeOf3
  v3 := Tryz.zeroValue3
  t4 := Tryz.underlying4
  a4 := Tryz.isAgg4
  z4 := Tryz.sizeOf4
  v4 := Tryz.zeroValue4 }
def YthgaflmldbgbnaaGreatDoor.lIsSorted_ren : Go.Shelf.Ren := ⟨fun | 7 => 70 | n => n, fun | 22 => 32 | 24 => 69 | 25 => 134 | 4 => 4 | 3 => 3 | 0 => 0 | n => n, fun | n => n⟩
theorem YthgaflmldbgbnaaGreatDoor.lIsSorted : Go.Proofs.SlLaysG2.n7 Tryz.prog YthgaflmldbgbnaaGreatDoor.lIsSorted_ren := {
  mixed := by kernel_rfl
  f7 := ⟨Tryz.f70.name, by decide, Tryz.func70.trans (congrArg some (by kernel_rfl))⟩
  t0 := Tryz.underlying0
  a0 := Tryz.isAgg0
  z0 := Tryz.sizeOf0
  v0 := Tryz.zeroValue0
  t3 := Tryz.underlying3
  a3 := Tryz.isAgg3
  z3 := Tryz.sizeOf3
  v3 := Tryz.zeroValue3
  t4 := Tryz.underlying4
  a4 := Tryz.isAgg4
  z4 := Tryz.sizeOf4
  v4 := Tryz.zeroValue4
  t22 := Tryz.underlying32
  a22 := Tryz.isAgg32
  z22 := Tryz.sizeOf32
  v22 := Tryz.zeroValue32
  a24 := Tryz.isAgg69
  z24 := Tryz.sizeOf69
  t25 := Tryz.underlying134
  a25 := Tryz.isAgg134
  z25 := Tryz.sizeOf134
  v25 := Tryz.zeroValue134 }
def YthgaflmldbgbnaaGreatDoor.lCloneRow_ren : Go.Shelf.Ren := ⟨fun | 41 => 50 | n => n, fun | 22 => 69 | 23 => 71 | 4 => 4 | n => n, fun | n => n⟩
theorem YthgaflmldbgbnaaGreatDoor.lCloneRow : Go.Proofs.SlLaysE0.n41 Tryz.prog YthgaflmldbgbnaaGreatDoor.lCloneRow_ren := {
  mixed := by kernel_rfl
  f41 := ⟨Tryz.f50.name, by decide, Tryz.func50.trans (congrArg some (by kernel_rfl))⟩
  t4 := Tryz.underlying4
  a4 := Tryz.isAgg4
  z4 := Tryz.sizeOf4
  v4 := Tryz.zeroValue4
  t22 := Tryz.underlying69
  a22 := Tryz.isAgg69
  z22 := Tryz.sizeOf69
  v22 := Tryz.zeroValue69 }
def YthgaflmldbgbnaaGreatDoor.lCloneRows_ren : Go.Shelf.Ren := ⟨fun | 41 => 48 | n => n, fun | 22 => 32 | 23 => 69 | 4 => 4 | n => n, fun | n => n⟩
theorem YthgaflmldbgbnaaGreatDoor.lCloneRows : Go.Proofs.SlLaysE0.n41 Tryz.prog YthgaflmldbgbnaaGreatDoor.lCloneRows_ren := {
  mixed := by kernel_rfl
  f41 := ⟨Tryz.f48.name, by decide, Tryz.func48.trans (congrArg some (by kernel_rfl))⟩
  t4 := Tryz.underlying4
  a4 := Tryz.isAgg4
  z4 := Tryz.sizeOf4
  v4 := Tryz.zeroValue4
  t22 := Tryz.underlying32
  a22 := Tryz.isAgg32
  z22 := Tryz.sizeOf32
  v22 := Tryz.zeroValue32 }
end Go.Proofs
end
namespace Go.Proofs.YthgaflmldbgbnaaGreatDoor
section
open Go.RowKit Go.Sort

theorem cmpInt_any (x y : Int) (w : World) : Calls Tryz.prog 106 #[.int .i64 x, .int .i64 y] w fun e w' => e = .returned (.int .i64 (RL.cmpI x y)) ∧ w' = w := by
  have h := Any.cmp_Compare_int lCmpInt x y w
  refine Calls.mono h fun e w' ⟨h1, h2⟩ => ⟨?_, h2⟩
  rw [h1]
  rfl

theorem nanInt64_any (x : Int) (w : World) : Calls Tryz.prog 116 #[.int .i64 x] w fun e w' => e = .returned (.bool false) ∧ w' = w := by
  go_enter Tryz.func116, Tryz.ntmps116
  go_wp2
  go_ret
  exact ⟨by simp, rfl⟩

theorem cmpInt64_any (x y : Int) (w : World) : Calls Tryz.prog 107 #[.int .i64 x, .int .i64 y] w fun e w' => e = .returned (.int .i64 (RL.cmpI x y)) ∧ w' = w := by
  by_cases h : x < y
  · have hr : RL.cmpI x y = -1 := by simp [RL.cmpI, h]
    rw [hr]
    clear hr
    go_enter Tryz.func107, Tryz.ntmps107
    go_wp2_with (go_at_call 116; refine (nanInt64_any _ _).mono ?_; rintro e w' ⟨rfl, rfl⟩)
    go_ret
    exact ⟨rfl, rfl⟩
  · by_cases h2 : y < x
    · have hr : RL.cmpI x y = 1 := by simp [RL.cmpI, h, h2]
      rw [hr]
      clear hr
      go_enter Tryz.func107, Tryz.ntmps107
      go_wp2_with (go_at_call 116; refine (nanInt64_any _ _).mono ?_; rintro e w' ⟨rfl, rfl⟩)
      go_ret
      exact ⟨rfl, rfl⟩
    · have hr : RL.cmpI x y = 0 := by simp [RL.cmpI, h, h2]
      rw [hr]
      clear hr
      go_enter Tryz.func107, Tryz.ntmps107
      go_wp2_with (go_at_call 116; refine (nanInt64_any _ _).mono ?_; rintro e w' ⟨rfl, rfl⟩)
      go_ret
      exact ⟨rfl, rfl⟩

theorem strCompare_any (a b : ByteArray) (w : World) : Calls Tryz.prog 108 #[.string a, .string b] w fun e w' => e = .returned (.int .i64 (RL.cmpS a b)) ∧ w' = w :=
  Any.strings_Compare lStrCmp a b w

theorem vCompare_any (a b : RL.V) (w : World) : Calls Tryz.prog 94 #[vv a, vv b] w fun e w' => e = .returned (.int .i64 (RL.cmpV a b)) ∧ Ext w w' := by
  obtain ⟨k, i, s⟩ := a
  obtain ⟨k', i', s'⟩ := b
  show Calls Tryz.prog 94 #[.agg #[.int .i64 k, .int .i64 i, .string s], .agg #[.int .i64 k', .int .i64 i', .string s']] w _
  have hE : ∀ o1 o2 : Obj, Ext w ((w.alloc o1).alloc o2) := fun o1 o2 => ((Ext.refl w).alloc o1).alloc o2
  by_cases h1 : k = k'
  · by_cases h2 : i = i'
    · rw [RL.cmpV_str (a := ⟨k, i, s⟩) (b := ⟨k', i', s'⟩) h1 h2]
      have d1 : (k != k') = false := by simp [h1]
      have d2 : (i != i') = false := by simp [h2]
      clear h1 h2
      go_enter Tryz.func94, Tryz.ntmps94
      go_wp2_with (go_at_call 108; refine (strCompare_any _ _ _).mono ?_; rintro e w' ⟨rfl, rfl⟩)
      go_ret
      exact ⟨rfl, hE _ _⟩
    · rw [RL.cmpV_int (a := ⟨k, i, s⟩) (b := ⟨k', i', s'⟩) h1 h2]
      have d1 : (k != k') = false := by simp [h1]
      have d2 : (i != i') = true := by simp [h2]
      clear h1 h2
      go_enter Tryz.func94, Tryz.ntmps94
      go_wp2_with (go_at_call 107; refine (cmpInt64_any _ _ _).mono ?_; rintro e w' ⟨rfl, rfl⟩)
      go_ret
      exact ⟨rfl, hE _ _⟩
  · rw [RL.cmpV_kind (a := ⟨k, i, s⟩) (b := ⟨k', i', s'⟩) h1]
    have d1 : (k != k') = true := by simp [h1]
    clear h1
    go_enter Tryz.func94, Tryz.ntmps94
    go_wp2_with (go_at_call 106; refine (cmpInt_any _ _ _).mono ?_; rintro e w' ⟨rfl, rfl⟩)
    go_ret
    exact ⟨rfl, hE _ _⟩

theorem loop_ne (bs : ByteArray) (i : Nat) (r : List UInt8) (h : r ≠ [] ∨ i < bs.size) : ByteArray.toList.loop bs i r ≠ [] := by
  rw [ByteArray.toList.loop]
  split
  · exact loop_ne bs (i + 1) _ (.inl (by simp))
  · rename_i h2
    rcases h with h | h
    · simpa using h
    · exact absurd h h2
  termination_by bs.size - i
theorem str_empty (s : ByteArray) : s.toList.isEmpty = decide (s.size = 0) := by
  rw [Bool.eq_iff_iff, List.isEmpty_iff, decide_eq_true_eq]
  constructor
  · intro h
    refine Classical.byContradiction fun h2 => ?_
    exact loop_ne s 0 [] (.inr (by omega)) h
  · intro h
    unfold ByteArray.toList
    rw [ByteArray.toList.loop, if_neg (by omega)]; rfl
theorem str_le24 (s : ByteArray) : decide ((s.size : Int) ≤ 24) = decide (s.size ≤ 24) := by
  rw [Bool.eq_iff_iff]; simp; omega

theorem vValid_any (a : RL.V) (w : World) (hs : a.str.size ≤ 9223372036854775807) : Calls Tryz.prog 87 #[vv a] w fun e w' => e = .returned (.bool (RL.validV a)) ∧ Ext w w' := by
  obtain ⟨k, i, s⟩ := a
  show Calls Tryz.prog 87 #[.agg #[.int .i64 k, .int .i64 i, .string s]] w _
  have hE : ∀ o1 : Obj, Ext w (w.alloc o1) := fun o1 => (Ext.refl w).alloc o1
  simp only at hs
  by_cases h1 : k = 1
  · subst h1
    have hv : RL.validV ⟨1, i, s⟩ = decide (s.size = 0) := by simp [RL.validV]
    rw [hv]
    go_enter Tryz.func87, Tryz.ntmps87
    go_wp2
    go_ret
    exact ⟨ret_bool (str_empty s), hE _⟩
  · have hk1 : (k == 1) = false := by simpa using h1
    by_cases h2 : k = 2
    · subst h2
      by_cases h3 : i = 0
      · subst h3
        have hv : RL.validV ⟨2, 0, s⟩ = decide (s.size ≤ 24) := by simp [RL.validV]
        rw [hv]
        clear hv
        go_enter Tryz.func87, Tryz.ntmps87
        go_wp2
        go_ret
        exact ⟨ret_bool (str_le24 s), hE _⟩
      · have hv : RL.validV ⟨2, i, s⟩ = false := by simp [RL.validV, h3]
        have hi0 : (i == 0) = false := by simpa using h3
        rw [hv]
        clear hv
        go_enter Tryz.func87, Tryz.ntmps87
        go_wp2
        go_ret
        exact ⟨rfl, hE _⟩
    · have hv : RL.validV ⟨k, i, s⟩ = false := by simp [RL.validV, h1, h2]
      have hk2 : (k == 2) = false := by simpa using h2
      rw [hv]
      clear hv
      go_enter Tryz.func87, Tryz.ntmps87
      go_wp2
      go_ret
      exact ⟨rfl, hE _⟩

def diffAt : List UInt8 → List UInt8 → Int
  | [], [] => 0
  | [], y => -(y.length : Int)
  | x, [] => x.length
  | a :: x, b :: y => if a < b then -1 else if b < a then 1 else diffAt x y
theorem diffAt_sign : ∀ x y : List UInt8, (diffAt x y < 0 ↔ Lib.compareBytes x y < 0) ∧ (0 < diffAt x y ↔ 0 < Lib.compareBytes x y)
  | [], [] => by simp [diffAt, Lib.compareBytes]
  | [], b :: y => by simp [diffAt, Lib.compareBytes]; omega
  | a :: x, [] => by simp [diffAt, Lib.compareBytes]; omega
  | a :: x, b :: y => by
    simp only [diffAt, Lib.compareBytes]
    split
    · simp
    · split
      · simp
      · exact diffAt_sign x y
theorem drop_cons (s : ByteArray) (k : Nat) (h : k < s.size) : s.data.toList.drop k = s[k] :: s.data.toList.drop (k + 1) := by
  rw [List.drop_eq_getElem_cons (by simpa using h)]; rfl
theorem diffAt_end {x y : List UInt8} (h : x = [] ∨ y = []) : diffAt x y = (x.length : Int) - y.length := by
  rcases h with rfl | rfl
  · cases y <;> simp [diffAt]
  · cases x <;> simp [diffAt]

set_option maxHeartbeats 400000 in
theorem r1compare_any (a b : ByteArray) (w : World) (ha : a.size ≤ 1000000000) (hb : b.size ≤ 1000000000) : Calls Tryz.prog 92 #[.string a, .string b] w fun e w' => e = .returned (.int .i64 (diffAt a.data.toList b.data.toList)) ∧ Ext w w' := by
  go_enter Tryz.func92, Tryz.ntmps92
  go_wp2
  go_loopw [5] (fun i wr => ∃ k : Nat, k ≤ a.size ∧ k ≤ b.size ∧ i = .int .i64 k ∧ diffAt a.data.toList b.data.toList = diffAt (a.data.toList.drop k) (b.data.toList.drop k) ∧ ∃ n, wr = w.drewN n) (fun i _ => a.size - (intOf i).toNat)
  case atStart => exact ⟨0, Nat.zero_le _, Nat.zero_le _, rfl, by simp, 0, rfl⟩
  case round =>
    obtain ⟨k, hka, hkb, rfl, hd, n, rfl⟩ := hrel
    have HD := Lib.hid hd
    clear hd
    by_cases h1 : k < a.size
    · by_cases h2 : k < b.size
      · have hda := drop_cons a k h1
        have hdb := drop_cons b k h2
        have HC : Hid (diffAt a.data.toList b.data.toList = if a[k] < b[k] then -1 else if b[k] < a[k] then 1 else diffAt (a.data.toList.drop (k + 1)) (b.data.toList.drop (k + 1))) := by
          show _ = _
          rw [HD.out, hda, hdb]; rfl
        clear hda hdb
        go_wp2
        go_quiet (fail)
        go_wp2
        · have hlt : a[k].toNat < b[k].toNat := by assumption
          have hr : diffAt a.data.toList b.data.toList = -1 := by rw [HC.out, if_pos (UInt8.lt_iff_toNat_lt.2 hlt)]
          have HR := Lib.hid hr
          clear hr
          go_ret
          exact ⟨ret_int HR.out.symm, ((Ext.refl _).drewN _).drewN _⟩
        · have hnlt : ¬ a[k].toNat < b[k].toNat := by assumption
          go_quiet (fail)
          go_wp2
          · have hlt : b[k].toNat < a[k].toNat := by assumption
            have hr : diffAt a.data.toList b.data.toList = 1 := by rw [HC.out, if_neg (fun h => hnlt (UInt8.lt_iff_toNat_lt.1 h)), if_pos (UInt8.lt_iff_toNat_lt.2 hlt)]
            have HR := Lib.hid hr
            clear hr
            go_ret
            exact ⟨ret_int HR.out.symm, (((Ext.refl _).drewN _).drewN _).drewN _⟩
          · have hnlt2 : ¬ b[k].toNat < a[k].toNat := by assumption
            have hr : diffAt a.data.toList b.data.toList = diffAt (a.data.toList.drop (k + 1)) (b.data.toList.drop (k + 1)) := by rw [HC.out, if_neg (fun h => hnlt (UInt8.lt_iff_toNat_lt.1 h)), if_neg (fun h => hnlt2 (UInt8.lt_iff_toNat_lt.1 h))]
            have HR := Lib.hid hr
            clear hr
            go_roundw
            case rel => exact ⟨k + 1, by omega, by omega, by go_num, HR.out, _, rfl⟩
            case measure => simp [intOf]; omega
      · have hr : diffAt a.data.toList b.data.toList = (a.size : Int) - b.size := by
          rw [HD.out, diffAt_end (.inr (by simp; omega))]; simp; omega
        have HR := Lib.hid hr
        clear hr
        go_wp2
        go_ret
        exact ⟨ret_int HR.out.symm, (Ext.refl _).drewN _⟩
    · have hr : diffAt a.data.toList b.data.toList = (a.size : Int) - b.size := by
        rw [HD.out, diffAt_end (.inl (by simp; omega))]; simp; omega
      have HR := Lib.hid hr
      clear hr
      go_wp2
      go_ret
      exact ⟨ret_int HR.out.symm, (Ext.refl _).drewN _⟩

theorem r1Compare_any (a b : RL.V) (w : World) (ha : a.str.size ≤ 1000000000) (hb : b.str.size ≤ 1000000000) : Calls Tryz.prog 77 #[vv a, vv b] w fun e w' => e = .returned (.int .i64 (RL.cmpV a b)) ∧ Ext w w' := by
  obtain ⟨k, i, s⟩ := a
  obtain ⟨k', i', s'⟩ := b
  show Calls Tryz.prog 77 #[.agg #[.int .i64 k, .int .i64 i, .string s], .agg #[.int .i64 k', .int .i64 i', .string s']] w _
  simp only at ha hb
  have hE : ∀ o1 o2 : Obj, Ext w ((w.alloc o1).alloc o2) := fun o1 o2 => ((Ext.refl w).alloc o1).alloc o2
  have HE := Lib.hid hE
  clear hE
  by_cases h1 : k = k'
  · by_cases h2 : i = i'
    · rw [RL.cmpV_str (a := ⟨k, i, s⟩) (b := ⟨k', i', s'⟩) h1 h2]
      simp only
      have d1 : (k != k') = false := by simp [h1]
      have d2 : (i != i') = false := by simp [h2]
      clear h1 h2
      obtain ⟨hs1, hs2⟩ := diffAt_sign s.data.toList s'.data.toList
      have hrg := RL.tot_cmpS.rg s s'
      have hc : ∀ W, Calls Tryz.prog 92 #[.string s, .string s'] W fun e w' => e = .returned (.int .i64 (diffAt s.data.toList s'.data.toList)) ∧ Ext W w' := fun W => r1compare_any s s' W ha hb
      generalize hdd : diffAt s.data.toList s'.data.toList = d at *
      have e1 : Lib.compareBytes s.data.toList s'.data.toList = RL.cmpS s s' := rfl
      rw [e1] at hs1 hs2
      generalize RL.cmpS s s' = c at *
      have HC := Lib.hid hc
      clear hc e1 hdd
      by_cases g1 : d < 0
      · obtain rfl : c = -1 := by omega
        clear hs1 hs2 hrg
        go_enter Tryz.func77, Tryz.ntmps77
        go_wp2_with (go_at_call 92; refine (HC.out _).mono ?_; rintro e w' ⟨rfl, hx⟩)
        go_ret
        exact ⟨rfl, (HE.out _ _).trans hx⟩
      · by_cases g2 : 0 < d
        · obtain rfl : c = 1 := by omega
          clear hs1 hs2 hrg
          go_enter Tryz.func77, Tryz.ntmps77
          go_wp2_with (go_at_call 92; refine (HC.out _).mono ?_; rintro e w' ⟨rfl, hx⟩)
          go_ret
          exact ⟨rfl, (HE.out _ _).trans hx⟩
        · obtain rfl : c = 0 := by omega
          clear hs1 hs2 hrg
          go_enter Tryz.func77, Tryz.ntmps77
          go_wp2_with (go_at_call 92; refine (HC.out _).mono ?_; rintro e w' ⟨rfl, hx⟩)
          go_ret
          exact ⟨rfl, (HE.out _ _).trans hx⟩
    · rw [RL.cmpV_int (a := ⟨k, i, s⟩) (b := ⟨k', i', s'⟩) h1 h2]
      simp only
      have d1 : (k != k') = false := by simp [h1]
      have d2 : (i != i') = true := by simp [h2]
      clear h1
      by_cases g : i < i'
      · have hr : RL.cmpI i i' = -1 := by simp [RL.cmpI, g]
        rw [hr]
        clear hr h2
        go_enter Tryz.func77, Tryz.ntmps77
        go_wp2
        go_ret
        exact ⟨rfl, HE.out _ _⟩
      · have hr : RL.cmpI i i' = 1 := by simp [RL.cmpI, g]; omega
        rw [hr]
        clear hr h2
        go_enter Tryz.func77, Tryz.ntmps77
        go_wp2
        go_ret
        exact ⟨rfl, HE.out _ _⟩
  · rw [RL.cmpV_kind (a := ⟨k, i, s⟩) (b := ⟨k', i', s'⟩) h1]
    simp only
    have d1 : (k != k') = true := by simp [h1]
    by_cases g : k < k'
    · have hr : RL.cmpI k k' = -1 := by simp [RL.cmpI, g]
      rw [hr]
      clear hr h1
      go_enter Tryz.func77, Tryz.ntmps77
      go_wp2
      go_ret
      exact ⟨rfl, HE.out _ _⟩
    · have hr : RL.cmpI k k' = 1 := by simp [RL.cmpI, g]; omega
      rw [hr]
      clear hr h1
      go_enter Tryz.func77, Tryz.ntmps77
      go_wp2
      go_ret
      exact ⟨rfl, HE.out _ _⟩
end
section
open Go.RowKit Go.Sort

theorem cmpR_drop {x y : RL.R} {k : Nat} (h1 : k < x.length) (h2 : k < y.length) (h : RL.cmpV x[k] y[k] = 0) : RL.cmpR (x.drop k) (y.drop k) = RL.cmpR (x.drop (k + 1)) (y.drop (k + 1)) := by
  rw [List.drop_eq_getElem_cons h1, List.drop_eq_getElem_cons h2]
  simp [RL.cmpR, RL.cmpL, h]
theorem cmpR_drop_ne {x y : RL.R} {k : Nat} (h1 : k < x.length) (h2 : k < y.length) (h : RL.cmpV x[k] y[k] ≠ 0) : RL.cmpR (x.drop k) (y.drop k) = RL.cmpV x[k] y[k] := by
  rw [List.drop_eq_getElem_cons h1, List.drop_eq_getElem_cons h2]
  simp [RL.cmpR, RL.cmpL, h]
theorem cmpR_end {x y : RL.R} {k : Nat} (h1 : k ≤ x.length) (h2 : k ≤ y.length) (h : x.length = k ∨ y.length = k) : RL.cmpR (x.drop k) (y.drop k) = if x.length < y.length then -1 else if y.length < x.length then 1 else 0 := by
  rcases h with h | h
  · rw [List.drop_of_length_le (by omega : x.length ≤ k), RL.cmpR_nil]
    by_cases h3 : y.drop k = []
    · have := congrArg List.length h3
      simp at this
      rw [if_pos h3, if_neg (by omega), if_neg (by omega)]
    · have : k < y.length := by
        refine Classical.byContradiction fun h4 => h3 (List.drop_of_length_le (by omega))
      rw [if_neg h3, if_pos (by omega)]
  · rw [List.drop_of_length_le (by omega : y.length ≤ k)]
    cases h3 : x.drop k with
    | nil =>
      have := congrArg List.length h3
      simp at this
      rw [if_neg (by omega), if_neg (by omega)]; rfl
    | cons v r =>
      have := congrArg List.length h3
      simp at this
      rw [if_neg (by omega), if_pos (by omega)]; rfl

set_option maxHeartbeats 400000 in
theorem rwCompareBy_any (XA YA : Option Addr) (XC YC : Nat) (x y : RL.R) (w : World) (hx : SlR w.heap.size w XA x) (hy : SlR w.heap.size w YA y) (hxl : x.length ≤ 1000000) (_hyl : y.length ≤ 1000000) :
    Calls Tryz.prog 88 #[.slice XA x.length XC, .slice YA y.length YC, .slice none 0 0] w fun e w' => e = .returned (.int .i64 (RL.cmpR x y)) ∧ Ext w w' := by
  have HX := Lib.hid hx
  have HY := Lib.hid hy
  clear hx hy
  go_enter Tryz.func88, Tryz.ntmps88
  go_wp2
  go_loopw [14] (fun i wr => ∃ k : Nat, k ≤ x.length ∧ k ≤ y.length ∧ i = .int .i64 k ∧ RL.cmpR x y = RL.cmpR (x.drop k) (y.drop k) ∧ Ext w wr) (fun i _ => x.length - (intOf i).toNat)
  case atStart => exact ⟨0, Nat.zero_le _, Nat.zero_le _, rfl, by simp, Ext.refl _⟩
  case round =>
    obtain ⟨k, hka, hkb, rfl, hd, he⟩ := hrel
    have HD := Lib.hid hd
    clear hd
    by_cases h1 : k < x.length
    · by_cases h2 : k < y.length
      · obtain ⟨b, o, rfl, hb, c1, c2, c3⟩ := slR_at HX.out h1
        obtain ⟨b', o', rfl, hb', c1', c2', c3'⟩ := slR_at HY.out h2
        obtain ⟨hc, hf⟩ := he.rules
        have HN : Hid (RL.cmpV x[k] y[k] ≠ 0 → RL.cmpR x y = RL.cmpV x[k] y[k]) := fun h => HD.out.trans (cmpR_drop_ne h1 h2 h)
        have HZ : Hid (RL.cmpV x[k] y[k] = 0 → RL.cmpR x y = RL.cmpR (x.drop (k + 1)) (y.drop (k + 1))) := fun h => HD.out.trans (cmpR_drop h1 h2 h)
        generalize x[k] = u at c1 c2 c3 HN HZ
        generalize y[k] = v at c1' c2' c3' HN HZ
        go_wp2
        go_still_tail 8, (by kernel_rfl)
        go_wp2_with fail
        refine (vCompare_any u v _).mono ?_
        rintro e w2 ⟨rfl, hx2⟩
        have HE2 := Lib.hid (he.drew.trans hx2)
        clear hc hf c1 c2 c3 c1' c2' c3' hx2 he
        by_cases hz : RL.cmpV u v = 0
        · have HZ2 := Lib.hid (HZ.out hz)
          have hz2 : (RL.cmpV u v == 0) = true := by simpa using hz
          clear hz HZ HN
          generalize RL.cmpV u v = c at *
          go_wp2
          go_roundw
          case rel => exact ⟨k + 1, by omega, by omega, by go_num, HZ2.out, HE2.out⟩
          case measure => simp [intOf]; omega
        · have HN2 := Lib.hid (HN.out hz)
          have hz2 : (RL.cmpV u v == 0) = false := by simpa using hz
          clear hz HZ HN
          generalize RL.cmpV u v = c at *
          go_wp2
          go_ret
          exact ⟨ret_int HN2.out.symm, HE2.out⟩
      · have HR := Lib.hid (HD.out.trans (cmpR_end hka hkb (.inr (by omega))))
        clear HD
        have hn : ¬ (k : Int) < min (x.length : Int) (y.length : Int) := by omega
        by_cases g1 : x.length < y.length
        · have HR2 := Lib.hid (HR.out.trans (if_pos g1))
          go_wp2
          go_ret
          exact ⟨ret_int HR2.out.symm, he⟩
        · by_cases g2 : y.length < x.length
          · have HR2 := Lib.hid ((HR.out.trans (if_neg g1)).trans (if_pos g2))
            go_wp2
            go_ret
            exact ⟨ret_int HR2.out.symm, he⟩
          · have HR2 := Lib.hid ((HR.out.trans (if_neg g1)).trans (if_neg g2))
            go_wp2
            go_ret
            exact ⟨ret_int HR2.out.symm, he⟩
    · have HR := Lib.hid (HD.out.trans (cmpR_end hka hkb (.inl (by omega))))
      clear HD
      have hn : ¬ (k : Int) < min (x.length : Int) (y.length : Int) := by omega
      by_cases g1 : x.length < y.length
      · have HR2 := Lib.hid (HR.out.trans (if_pos g1))
        go_wp2
        go_ret
        exact ⟨ret_int HR2.out.symm, he⟩
      · by_cases g2 : y.length < x.length
        · have HR2 := Lib.hid ((HR.out.trans (if_neg g1)).trans (if_pos g2))
          go_wp2
          go_ret
          exact ⟨ret_int HR2.out.symm, he⟩
        · have HR2 := Lib.hid ((HR.out.trans (if_neg g1)).trans (if_neg g2))
          go_wp2
          go_ret
          exact ⟨ret_int HR2.out.symm, he⟩

theorem rwCompare_any (XA YA : Option Addr) (XC YC : Nat) (x y : RL.R) (w : World) (hx : SlR w.heap.size w XA x) (hy : SlR w.heap.size w YA y) (hxl : x.length ≤ 1000000) (hyl : y.length ≤ 1000000) :
    Calls Tryz.prog 71 #[.slice XA x.length XC, .slice YA y.length YC] w fun e w' => e = .returned (.int .i64 (RL.cmpR x y)) ∧ Ext w w' := by
  have HC := Lib.hid (rwCompareBy_any XA YA XC YC x y w hx hy hxl hyl)
  clear hx hy
  generalize RL.cmpR x y = c at *
  go_enter Tryz.func71, Tryz.ntmps71
  go_wp2_with (go_at_call 88; refine HC.out.mono ?_; rintro e w' ⟨rfl, hx⟩)
  go_ret
  exact ⟨rfl, hx⟩

theorem rwEqual_any (XA YA : Option Addr) (XC YC : Nat) (x y : RL.R) (w : World) (hx : SlR w.heap.size w XA x) (hy : SlR w.heap.size w YA y) (hxl : x.length ≤ 1000000) (hyl : y.length ≤ 1000000) :
    Calls Tryz.prog 74 #[.slice XA x.length XC, .slice YA y.length YC] w fun e w' => e = .returned (.bool (decide (x = y))) ∧ Ext w w' := by
  have HC := Lib.hid (rwCompare_any XA YA XC YC x y w hx hy hxl hyl)
  have HQ : Hid ((RL.cmpR x y == 0) = decide (x = y)) := by
    show _ = _
    rw [Bool.eq_iff_iff]; simp [RL.tot_cmpR.z]
  clear hx hy
  generalize RL.cmpR x y = c at *
  go_enter Tryz.func74, Tryz.ntmps74
  go_wp2_with (go_at_call 71; refine HC.out.mono ?_; rintro e w' ⟨rfl, hx⟩)
  go_ret
  exact ⟨ret_bool HQ.out, hx⟩

def StrOk (x : RL.R) : Prop := ∀ v ∈ x, v.str.size ≤ 1000000000

set_option maxHeartbeats 400000 in
theorem rwValid_any (XA : Option Addr) (XC : Nat) (x : RL.R) (w : World) (hx : SlR w.heap.size w XA x) (hxl : x.length ≤ 1000000) (hs : StrOk x) :
    Calls Tryz.prog 69 #[.slice XA x.length XC] w fun e w' => e = .returned (.bool (x.all RL.validV)) ∧ Ext w w' := by
  have HX := Lib.hid hx
  have HST := Lib.hid hs
  clear hx hs
  go_enter Tryz.func69, Tryz.ntmps69
  go_wp2
  go_loopw [6] (fun i wr => ∃ k : Nat, k ≤ x.length ∧ i = .int .i64 k ∧ x.all RL.validV = (x.drop k).all RL.validV ∧ Ext w wr) (fun i _ => x.length - (intOf i).toNat)
  case atStart => exact ⟨0, Nat.zero_le _, rfl, by simp, Ext.refl _⟩
  case round =>
    obtain ⟨k, hka, rfl, hd, he⟩ := hrel
    have HD := Lib.hid hd
    clear hd
    by_cases h1 : k < x.length
    · obtain ⟨b, o, rfl, hb, c1, c2, c3⟩ := slR_at HX.out h1
      obtain ⟨hc, hf⟩ := he.rules
      have HN := Lib.hid (HD.out.trans (by rw [List.drop_eq_getElem_cons h1, List.all_cons] : (x.drop k).all RL.validV = (RL.validV x[k] && (x.drop (k + 1)).all RL.validV)))
      have HC : Hid (∀ W, Calls Tryz.prog 87 #[vv x[k]] W fun e w' => e = .returned (.bool (RL.validV x[k])) ∧ Ext W w') := fun W => vValid_any x[k] W (Nat.le_trans (HST.out _ (List.getElem_mem h1)) (by omega))
      generalize x[k] = u at c1 c2 c3 HN HC
      cases hv : RL.validV u
      · rw [hv] at HC HN
        clear hv
        go_wp2_with fail
        refine (HC.out _).mono ?_
        rintro e w2 ⟨rfl, hx2⟩
        have HE2 := Lib.hid (he.trans hx2)
        clear hc hf c1 c2 c3 hx2 he
        go_wp2
        go_ret
        exact ⟨ret_bool (by rw [HN.out]; rfl), HE2.out⟩
      · rw [hv] at HC HN
        clear hv
        go_wp2_with fail
        refine (HC.out _).mono ?_
        rintro e w2 ⟨rfl, hx2⟩
        have HE2 := Lib.hid (he.trans hx2)
        clear hc hf c1 c2 c3 hx2 he
        go_wp2
        go_roundw
        case rel => exact ⟨k + 1, by omega, by go_num, by rw [HN.out]; rfl, HE2.out⟩
        case measure => simp [intOf]; omega
    · have HR := Lib.hid (HD.out.trans (by rw [List.drop_of_length_le (by omega)]; rfl : (x.drop k).all RL.validV = true))
      go_wp2
      go_ret
      exact ⟨ret_bool HR.out.symm, he⟩
end
section
open Go.RowKit Go.Sort

def SlRs (B : Nat) (w : World) (A : Option Addr) (X : List RL.R) : Prop :=
  X ≠ [] → ∃ b o, A = some ⟨b, o, none⟩ ∧ b < B ∧ ∀ i (h : i < X.length), ∃ A' C', w.cell? ⟨b, o + i, none⟩ = some (.slice A' X[i].length C') ∧ X[i].length ≤ C' ∧ C' ≤ 9223372036854775807 ∧ SlR B w A' X[i]

section
variable {B C : Nat} {w w' : World} {A : Option Addr} {X : List RL.R}
theorem SlRs.nil : SlRs B w A [] := fun h => absurd rfl h
theorem SlRs.keep (h : SlRs B w A X) (hk : ∀ p : Addr, p.block < B → w'.cell? p = w.cell? p) : SlRs B w' A X := fun hn => by
  obtain ⟨b, o, e, hb, hc⟩ := h hn
  refine ⟨b, o, e, hb, fun i hi => ?_⟩
  obtain ⟨A', C', h1, h2, h2', h3⟩ := hc i hi
  exact ⟨A', C', (hk _ hb).trans h1, h2, h2', Sl.keep h3 hk⟩
theorem SlRs.below (h : SlRs B w A X) (hb : Below C w w') (hC : B ≤ C) : SlRs B w' A X := h.keep fun _ hp => hb.cell (by omega)
theorem SlRs.ext (h : SlRs B w A X) (hB : B ≤ w.heap.size) (he : Ext w w') : SlRs B w' A X := h.below he.below hB
theorem SlRs.more {B' : Nat} (h : SlRs B w A X) (hB : B ≤ B') : SlRs B' w A X := fun hn => by
  obtain ⟨b, o, e, hb, hc⟩ := h hn
  refine ⟨b, o, e, by omega, fun i hi => ?_⟩
  obtain ⟨A', C', h1, h2, h2', h3⟩ := hc i hi
  exact ⟨A', C', h1, h2, h2', h3.more hB⟩
theorem slRs_at (h : SlRs B w A X) {i : Nat} (hi : i < X.length) : ∃ b o A' C', A = some ⟨b, o, none⟩ ∧ b < B ∧ w.cell? ⟨b, o + i, none⟩ = some (.slice A' X[i].length C') ∧ X[i].length ≤ C' ∧ C' ≤ 9223372036854775807 ∧ SlR B w A' X[i] := by
  obtain ⟨b, o, e, hb, hc⟩ := h (by intro h0; subst h0; simp at hi)
  obtain ⟨A', C', h1, h2, h2', h3⟩ := hc i hi
  exact ⟨b, o, A', C', e, hb, h1, h2, h2', h3⟩
theorem SlRs.drop {b o : Nat} (h : SlRs B w (some ⟨b, o, none⟩) X) (k : Nat) : SlRs B w (some ⟨b, o + k, none⟩) (X.drop k) := fun hn => by
  obtain ⟨b', o', e, hb, hc⟩ := h (by intro h0; apply hn; rw [h0]; simp)
  simp at e
  obtain ⟨rfl, rfl⟩ := e
  refine ⟨b, o + k, rfl, hb, fun i hi => ?_⟩
  simp at hi
  obtain ⟨A', C', h1, h2, h2', h3⟩ := hc (k + i) (by omega)
  refine ⟨A', C', ?_, ?_, h2', ?_⟩
  · rw [Nat.add_assoc]; simpa using h1
  · simpa using h2
  · simpa using h3
theorem SlRs.take (h : SlRs B w A X) (k : Nat) : SlRs B w A (X.take k) := fun hn => by
  obtain ⟨b', o', e, hb, hc⟩ := h (by intro h0; apply hn; rw [h0]; simp)
  refine ⟨b', o', e, hb, fun i hi => ?_⟩
  simp at hi
  obtain ⟨A', C', h1, h2, h2', h3⟩ := hc i (by omega)
  exact ⟨A', C', by simpa using h1, by simpa using h2, h2', by simpa using h3⟩
end

def ROk (x : RL.R) : Prop := x.length ≤ 1000000 ∧ StrOk x
def RsOk (X : List RL.R) : Prop := ∀ x ∈ X, ROk x
theorem RsOk.at_ {X : List RL.R} (h : RsOk X) {i : Nat} (hi : i < X.length) : ROk X[i] := h _ (List.getElem_mem hi)

theorem SlR.up {w w' : World} {A : Option Addr} {x : RL.R} (h : SlR w.heap.size w A x) (he : Ext w w') : SlR w'.heap.size w' A x := (h.ext (Nat.le_refl _) he).more he.size
theorem SlR.upB {w w' : World} {A : Option Addr} {x : RL.R} (h : SlR w.heap.size w A x) (hb : Below w.heap.size w w') : SlR w'.heap.size w' A x := (h.below hb (Nat.le_refl _)).more hb.size
theorem SlR.alloc1 {w : World} {A : Option Addr} {x : RL.R} (h : SlR w.heap.size w A x) (o : Obj) : SlR (w.alloc o).heap.size (w.alloc o) A x := h.up ((Ext.refl w).alloc o)
theorem SlRs.up {w w' : World} {A : Option Addr} {X : List RL.R} (h : SlRs w.heap.size w A X) (he : Ext w w') : SlRs w'.heap.size w' A X := (h.ext (Nat.le_refl _) he).more he.size
theorem SlRs.upB {w w' : World} {A : Option Addr} {X : List RL.R} (h : SlRs w.heap.size w A X) (hb : Below w.heap.size w w') : SlRs w'.heap.size w' A X := (h.below hb (Nat.le_refl _)).more hb.size
end
end Go.Proofs.YthgaflmldbgbnaaGreatDoor
section
namespace Go.Proofs.YthgaflmldbgbnaaGreatDoor.RL

def SS (X : List R) : Prop := X.Pairwise fun a b => cmpR a b < 0
def rank (X : List R) (r : R) : Nat := X.countP fun y => decide (cmpR y r < 0)

theorem SS.tail {x : R} {X : List R} (h : SS (x :: X)) : SS X := (List.pairwise_cons.1 h).2
theorem SS.head {x : R} {X : List R} (h : SS (x :: X)) : ∀ y ∈ X, cmpR x y < 0 := (List.pairwise_cons.1 h).1
theorem rank_le (X : List R) (r : R) : rank X r ≤ X.length := List.countP_le_length

theorem rank_split {X : List R} (h : SS X) (r : R) : (∀ i (hi : i < X.length), i < rank X r → cmpR X[i] r < 0) ∧ (∀ i (hi : i < X.length), rank X r ≤ i → 0 ≤ cmpR X[i] r) := by
  induction X with
  | nil => exact ⟨fun i hi => absurd hi (by simp), fun i hi => absurd hi (by simp)⟩
  | cons x X ih =>
    obtain ⟨ih1, ih2⟩ := ih h.tail
    by_cases hx : cmpR x r < 0
    · have hr : rank (x :: X) r = rank X r + 1 := by simp [rank, hx]
      rw [hr]
      refine ⟨fun i hi hlt => ?_, fun i hi hge => ?_⟩
      · cases i with
        | zero => exact hx
        | succ i => exact ih1 i (by simpa using hi) (by omega)
      · cases i with
        | zero => omega
        | succ i => exact ih2 i (by simpa using hi) (by omega)
    · have hall : ∀ y ∈ X, ¬ cmpR y r < 0 := fun y hy hlt => hx (tot_cmpR.tr _ _ _ (h.head y hy) hlt)
      have hr : rank (x :: X) r = 0 := by
        have : X.countP (fun y => decide (cmpR y r < 0)) = 0 := List.countP_eq_zero.2 fun y hy => by simpa using hall y hy
        simp [rank, hx, this]
      rw [hr]
      refine ⟨fun i hi hlt => absurd hlt (by omega), fun i hi _ => ?_⟩
      cases i with
      | zero => simp; omega
      | succ i => have hi' : i < X.length := by simpa using hi
                  have := hall X[i] (List.getElem_mem hi'); simp; omega

def beginsB (x p : R) : Bool := decide (p.length ≤ x.length) && decide (x.take p.length = p)
theorem beginsB_iff (x p : R) : beginsB x p = true ↔ ∃ t, x = p ++ t := by
  unfold beginsB
  simp only [Bool.and_eq_true, decide_eq_true_eq]
  constructor
  · rintro ⟨h1, h2⟩
    exact ⟨x.drop p.length, by rw [← h2]; simp [h1]⟩
  · rintro ⟨t, rfl⟩
    simp

theorem countP_split {Y : List R} {p : R → Bool} {j : Nat} (hj : j ≤ Y.length) (h1 : ∀ i (hi : i < Y.length), i < j → p Y[i] = true) (h2 : ∀ i (hi : i < Y.length), j ≤ i → p Y[i] = false) : Y.countP p = j := by
  have e : Y = Y.take j ++ Y.drop j := (List.take_append_drop j Y).symm
  rw [e, List.countP_append]
  have g1 : (Y.take j).countP p = (Y.take j).length := List.countP_eq_length.2 fun y hy => by
    obtain ⟨i, hi, rfl⟩ := List.getElem_of_mem hy
    simp at hi
    rw [List.getElem_take]
    exact h1 i (by omega) (by omega)
  have g2 : (Y.drop j).countP p = 0 := List.countP_eq_zero.2 fun y hy => by
    obtain ⟨i, hi, rfl⟩ := List.getElem_of_mem hy
    simp at hi
    rw [List.getElem_drop, h2 (j + i) (by omega) (by omega)]
    simp
  rw [g1, g2]
  simp
  omega

end Go.Proofs.YthgaflmldbgbnaaGreatDoor.RL
end
namespace Go.Proofs.YthgaflmldbgbnaaGreatDoor
section
open Go.RowKit Go.Sort

theorem valInfo : (Tryz.prog.info? 71).map (fun i => (i.zero, i.size, i.bytes)) = some (some (.agg #[.int .i64 0, .int .i64 0, .string ⟨#[]⟩]), 3, 32) := by kernel_rfl
theorem r1Info : (Tryz.prog.info? 114).map (fun i => (i.zero, i.size, i.bytes)) = some (some (.agg #[.int .i64 0, .int .i64 0, .string ⟨#[]⟩]), 3, 32) := by kernel_rfl
theorem rowInfo : (Tryz.prog.info? 69).map (fun i => (i.zero, i.size, i.bytes)) = some (some (.slice none 0 0), 1, 24) := by kernel_rfl
theorem r7rowInfo : (Tryz.prog.info? 103).map (fun i => (i.zero, i.size, i.bytes)) = some (some (.slice none 0 0), 1, 24) := by kernel_rfl

theorem SlR.of_own {w : World} {base : Nat} {e : TypeId} {v : Value} {n : Nat} {x : RL.R} (h : w.ownsRow base e 3 v n (rcells x)) :
    n = x.length ∧ ∃ A c, v = .slice A x.length c ∧ x.length ≤ c ∧ c ≤ 9223372036854775807 ∧ SlR w.heap.size w A x ∧ ∀ ad, A = some ad → base ≤ ad.block := by
  have hn : n = x.length := by have := h.1; rw [rcells_length] at this; omega
  subst hn
  refine ⟨rfl, ?_⟩
  obtain ⟨A, c, e1, hc, hs⟩ := Sl.of_own_n h
  refine ⟨A, c, e1, hc, ?_, hs, ?_⟩
  · rcases h.2 with ⟨h1, h0⟩ | ⟨g, cap, cur, h1, _, _, _, hm, _⟩
    · rw [h1] at e1; injection e1 with _ _ e3; omega
    · rw [h1] at e1; injection e1 with _ _ e3; unfold maxLen at hm; omega
  · intro ad had
    subst had
    exact own_base h (k := ad.block) (by rw [e1]; rfl)

theorem app1V {w : World} {ops : Array Oper} {rest : List Oper} {o : Oper} {a : Act} {Q : Exit → Act → World → Prop} (hgd : o.guard = none) (s x : Operand)
    (ho : o.op = .call { callee := .builtin .append, args := #[s, x], argTypes := #[69, 69] })
    (base : Nat) (v : Value) (l : RL.R) (hs : a.eval s = v) (hown : w.ownsRow base 71 3 v l.length (rcells l))
    (gt : Nat) (z : RL.V) (hx : a.eval x = .slice (some ⟨gt, 0, none⟩) 1 1) (h0 : w.cell? ⟨gt, 0, none⟩ = some (.int .i64 z.kind)) (h1 : w.cell? ⟨gt, 1, none⟩ = some (.int .i64 z.int)) (h2 : w.cell? ⟨gt, 2, none⟩ = some (.string z.str))
    (hn : l.length ≤ 100000000) (hbase : base ≤ w.heap.size)
    (h : ∀ v' w', w'.ownsRow base 71 3 v' (l ++ [z]).length (rcells (l ++ [z])) → w.grownBy w' v.ownBlock → wpList Tryz.prog ops Q rest (a.put o.dst v') w') : wpList Tryz.prog ops Q (o :: rest) a w := by
  obtain ⟨i0, hi0, hz0, hz1, hz2⟩ := info_parts valInfo
  refine wpList_append_own w hgd s x 69 ho base 71 i0 _ 3 32 Tryz.underlying69 hi0 hz0 hz1 hz2 rfl (by decide) v l.length (rcells l) hs hown ⟨gt, 0, none⟩ 1 1 (vcells z) hx rfl ?_ ?_ (by simp only [maxLen]; omega) (by omega) hbase ?_
  · intro j u hu
    match j with
    | 0 => simp [vcells] at hu; subst hu; exact h0
    | 1 => simp [vcells] at hu; subst hu; exact h1
    | 2 => simp [vcells] at hu; subst hu; exact h2
    | j + 3 => simp [vcells] at hu
  · intro u hu; simp [vcells] at hu; rcases hu with rfl | rfl | rfl <;> rfl
  · intro v' w' h1 h2 _
    refine h v' w' ?_ h2
    rw [rcells_append, List.length_append]
    have : rcells [z] = vcells z := by simp [rcells]
    rw [this]
    exact h1
theorem app1W {w : World} {ops : Array Oper} {rest : List Oper} {o : Oper} {a : Act} {Q : Exit → Act → World → Prop} (hgd : o.guard = none) (s x : Operand)
    (ho : o.op = .call { callee := .builtin .append, args := #[s, x], argTypes := #[103, 103] })
    (base : Nat) (v : Value) (l : RL.R) (hs : a.eval s = v) (hown : w.ownsRow base 114 3 v l.length (rcells l))
    (gt : Nat) (z : RL.V) (hx : a.eval x = .slice (some ⟨gt, 0, none⟩) 1 1) (h0 : w.cell? ⟨gt, 0, none⟩ = some (.int .i64 z.kind)) (h1 : w.cell? ⟨gt, 1, none⟩ = some (.int .i64 z.int)) (h2 : w.cell? ⟨gt, 2, none⟩ = some (.string z.str))
    (hn : l.length ≤ 100000000) (hbase : base ≤ w.heap.size)
    (h : ∀ v' w', w'.ownsRow base 114 3 v' (l ++ [z]).length (rcells (l ++ [z])) → w.grownBy w' v.ownBlock → wpList Tryz.prog ops Q rest (a.put o.dst v') w') : wpList Tryz.prog ops Q (o :: rest) a w := by
  obtain ⟨i0, hi0, hz0, hz1, hz2⟩ := info_parts r1Info
  refine wpList_append_own w hgd s x 103 ho base 114 i0 _ 3 32 Tryz.underlying103 hi0 hz0 hz1 hz2 rfl (by decide) v l.length (rcells l) hs hown ⟨gt, 0, none⟩ 1 1 (vcells z) hx rfl ?_ ?_ (by simp only [maxLen]; omega) (by omega) hbase ?_
  · intro j u hu
    match j with
    | 0 => simp [vcells] at hu; subst hu; exact h0
    | 1 => simp [vcells] at hu; subst hu; exact h1
    | 2 => simp [vcells] at hu; subst hu; exact h2
    | j + 3 => simp [vcells] at hu
  · intro u hu; simp [vcells] at hu; rcases hu with rfl | rfl | rfl <;> rfl
  · intro v' w' h1 h2 _
    refine h v' w' ?_ h2
    rw [rcells_append, List.length_append]
    have : rcells [z] = vcells z := by simp [rcells]
    rw [this]
    exact h1

def OwnRs (w : World) (B : Nat) (E : TypeId) (v : Value) (X : List RL.R) : Prop :=
  ∃ hs : List Value, w.ownsRow B E 1 v X.length hs ∧ ∀ i (h : i < X.length), ∃ A' C', hs[i]? = some (.slice A' X[i].length C') ∧ X[i].length ≤ C' ∧ C' ≤ 9223372036854775807 ∧ SlR w.heap.size w A' X[i] ∧ (X[i] ≠ [] → ∀ ad, A' = some ad → v.ownBlock ≠ some ad.block)

section
variable {w w' : World} {B : Nat} {E : TypeId} {v : Value} {X : List RL.R}
theorem OwnRs.nil (w : World) (B : Nat) (E : TypeId) : OwnRs w B E (.slice none 0 0) [] := ⟨[], own_nil _ _ _ _, fun i h => absurd h (by simp)⟩
theorem OwnRs.keep (h : OwnRs w B E v X) (hb : Below w.heap.size w w') : OwnRs w' B E v X := by
  obtain ⟨hs, h1, h2⟩ := h
  refine ⟨hs, own_keep h1 hb, fun i hi => ?_⟩
  obtain ⟨A', C', g1, g2, g3, g4, g5⟩ := h2 i hi
  exact ⟨A', C', g1, g2, g3, (g4.below hb (Nat.le_refl _)).more hb.size, g5⟩
theorem OwnRs.base (h : OwnRs w B E v X) : ∀ k, v.ownBlock = some k → B ≤ k := by
  obtain ⟨hs, h1, _⟩ := h
  exact fun k hk => own_base h1 hk
theorem SlR.grown {w w' : World} {A : Option Addr} {x : RL.R} {row : Option Nat} (h : SlR w.heap.size w A x) (hg : w.grownBy w' row) (hne : x ≠ [] → ∀ ad, A = some ad → row ≠ some ad.block) : SlR w'.heap.size w' A x := by
  intro hn
  have hx : x ≠ [] := by intro e; subst e; exact hn rfl
  obtain ⟨b, o, e, hb, hc⟩ := h hn
  refine ⟨b, o, e, Nat.lt_of_lt_of_le hb hg.size, fun i u hu => ?_⟩
  exact (grown_cell hg (p := ⟨b, o + i, none⟩) hb (fun e' => hne hx _ e e'.symm)).trans (hc i u hu)
theorem OwnRs.snoc {hs : List Value} (h1 : w.ownsRow B E 1 v X.length hs) (h2 : ∀ i (h : i < X.length), ∃ A' C', hs[i]? = some (.slice A' X[i].length C') ∧ X[i].length ≤ C' ∧ C' ≤ 9223372036854775807 ∧ SlR w.heap.size w A' X[i] ∧ (X[i] ≠ [] → ∀ ad, A' = some ad → v.ownBlock ≠ some ad.block)) {A' : Option Addr} {C' : Nat} {x : RL.R} {v' : Value} (hr : SlR w.heap.size w A' x) (hc : x.length ≤ C') (hm : C' ≤ 9223372036854775807) (hne : x ≠ [] → ∀ ad, A' = some ad → v.ownBlock ≠ some ad.block)
    (hown : w'.ownsRow B E 1 v' (X.length + 1) (hs ++ [.slice A' x.length C'])) (hg : w.grownBy w' v.ownBlock) (hat : ∀ g, v'.ownBlock = some g → v.ownBlock = some g ∨ w.heap.size ≤ g) : OwnRs w' B E v' (X ++ [x]) := by
  have hl : hs.length = X.length := by have := h1.1; omega
  refine ⟨hs ++ [.slice A' x.length C'], by rw [List.length_append]; exact hown, fun i hi => ?_⟩
  have other : ∀ (y : RL.R) (A : Option Addr), SlR w.heap.size w A y → (y ≠ [] → ∀ ad, A = some ad → v.ownBlock ≠ some ad.block) → SlR w'.heap.size w' A y ∧ (y ≠ [] → ∀ ad, A = some ad → v'.ownBlock ≠ some ad.block) := fun y A g4 g5 => by
    refine ⟨g4.grown hg g5, fun hy ad e e2 => ?_⟩
    rcases hat _ e2 with h3 | h3
    · exact g5 hy ad e h3
    · obtain ⟨b, o, e', hb, _⟩ := g4 (by
        intro h0
        have := congrArg List.length h0
        rw [rcells_length] at this
        exact hy (List.eq_nil_of_length_eq_zero (by simp only [List.length_nil] at this; omega)))
      rw [e] at e'
      injection e' with e'
      rw [e'] at h3
      simp only at h3
      omega
  by_cases hlt : i < X.length
  · obtain ⟨A, C, g1, g2, g3, g4, g5⟩ := h2 i hlt
    have e1 : (X ++ [x])[i] = X[i] := List.getElem_append_left hlt
    obtain ⟨k1, k2⟩ := other X[i] A g4 g5
    refine ⟨A, C, ?_, ?_, g3, ?_, ?_⟩
    · rw [List.getElem?_append_left (by omega), e1]; exact g1
    · rw [e1]; exact g2
    · rw [e1]; exact k1
    · rw [e1]; exact k2
  · have hi' : i = X.length := by simp at hi; omega
    subst hi'
    have e1 : (X ++ [x])[X.length] = x := by simp
    obtain ⟨k1, k2⟩ := other x A' hr hne
    refine ⟨A', C', ?_, ?_, hm, ?_, ?_⟩
    · rw [List.getElem?_append_right (by omega), e1, hl]; simp
    · rw [e1]; exact hc
    · rw [e1]; exact k1
    · rw [e1]; exact k2
theorem OwnRs.sl (h : OwnRs w B E v X) : ∃ A C, v = .slice A X.length C ∧ X.length ≤ C ∧ C ≤ 9223372036854775807 ∧ SlRs w.heap.size w A X := by
  obtain ⟨hs, h1, h2⟩ := h
  have hl : hs.length = X.length := by have := h1.1; omega
  obtain ⟨A, c, e1, hc, e3, hsl⟩ := Sl.of_own h1
  rw [hl] at e1 hc
  refine ⟨A, c, e1, hc, ?_, ?_⟩
  · rcases h1.2 with ⟨g1, g0⟩ | ⟨g, cap, cur, g1, _, _, _, hm, _⟩
    · rw [g1] at e1; injection e1 with _ _ e3; omega
    · rw [g1] at e1; injection e1 with _ _ e3; unfold maxLen at hm; omega
  · intro hn
    obtain ⟨b, o, e, hb, hcell⟩ := hsl (by intro h0; rw [h0] at hl; exact hn (List.eq_nil_of_length_eq_zero hl.symm))
    refine ⟨b, o, e, hb, fun i hi => ?_⟩
    obtain ⟨A', C', g1, g2, g3, g4, _⟩ := h2 i hi
    exact ⟨A', C', hcell i _ g1, g2, g3, g4⟩
end

theorem app1Row {w : World} {ops : Array Oper} {rest : List Oper} {o : Oper} {a : Act} {Q : Exit → Act → World → Prop} (hgd : o.guard = none) (s x : Operand)
    (ho : o.op = .call { callee := .builtin .append, args := #[s, x], argTypes := #[32, 32] })
    (base : Nat) (v : Value) (X : List RL.R) (hs : a.eval s = v) (hown : OwnRs w base 69 v X)
    (gt : Nat) (A' : Option Addr) (C' : Nat) (y : RL.R) (hx : a.eval x = .slice (some ⟨gt, 0, none⟩) 1 1) (hg : w.cell? ⟨gt, 0, none⟩ = some (.slice A' y.length C'))
    (hr : SlR w.heap.size w A' y) (hc : y.length ≤ C') (hm : C' ≤ 9223372036854775807) (hne : y ≠ [] → ∀ ad, A' = some ad → v.ownBlock ≠ some ad.block)
    (hn : (X.length + 1) * 24 ≤ 140737488355328) (hbase : base ≤ w.heap.size)
    (h : ∀ v' w', OwnRs w' base 69 v' (X ++ [y]) → w.grownBy w' v.ownBlock → wpList Tryz.prog ops Q rest (a.put o.dst v') w') : wpList Tryz.prog ops Q (o :: rest) a w := by
  obtain ⟨i0, hi0, hz0, hz1, hz2⟩ := info_parts rowInfo
  obtain ⟨hs0, h1, h2⟩ := hown
  refine wpList_append_lies w hgd s x 32 ho base 69 i0 _ 1 24 Tryz.underlying32 hi0 hz0 hz1 hz2 rfl (by decide) v X.length hs0 hs h1 ⟨gt, 0, none⟩ 1 1 [.slice A' y.length C'] hx rfl ?_ (by simp [Value.oneCell']) (by decide) (by simp only [maxLen]; omega) (by omega) hbase w.heap.size rfl ?_
  · intro j u hu
    cases j with
    | zero => simp at hu; subst hu; exact hg
    | succ j => simp at hu
  · intro g cap w' k1 k2 k3 k4
    refine h _ w' ?_ k2
    have hl : hs0.length = X.length := by have := h1.1; omega
    refine OwnRs.snoc h1 h2 hr hc hm hne k1 k2 ?_
    · intro g' hg'
      simp [Value.ownBlock] at hg'
      subst hg'
      rcases k3 with k3 | k3
      · exact .inl k3
      · exact .inr (by omega)
theorem app1R7 {w : World} {ops : Array Oper} {rest : List Oper} {o : Oper} {a : Act} {Q : Exit → Act → World → Prop} (hgd : o.guard = none) (s x : Operand)
    (ho : o.op = .call { callee := .builtin .append, args := #[s, x], argTypes := #[43, 43] })
    (base : Nat) (v : Value) (X : List RL.R) (hs : a.eval s = v) (hown : OwnRs w base 103 v X)
    (gt : Nat) (A' : Option Addr) (C' : Nat) (y : RL.R) (hx : a.eval x = .slice (some ⟨gt, 0, none⟩) 1 1) (hg : w.cell? ⟨gt, 0, none⟩ = some (.slice A' y.length C'))
    (hr : SlR w.heap.size w A' y) (hc : y.length ≤ C') (hm : C' ≤ 9223372036854775807) (hne : y ≠ [] → ∀ ad, A' = some ad → v.ownBlock ≠ some ad.block)
    (hn : (X.length + 1) * 24 ≤ 140737488355328) (hbase : base ≤ w.heap.size)
    (h : ∀ v' w', OwnRs w' base 103 v' (X ++ [y]) → w.grownBy w' v.ownBlock → wpList Tryz.prog ops Q rest (a.put o.dst v') w') : wpList Tryz.prog ops Q (o :: rest) a w := by
  obtain ⟨i0, hi0, hz0, hz1, hz2⟩ := info_parts r7rowInfo
  obtain ⟨hs0, h1, h2⟩ := hown
  refine wpList_append_lies w hgd s x 43 ho base 103 i0 _ 1 24 Tryz.underlying43 hi0 hz0 hz1 hz2 rfl (by decide) v X.length hs0 hs h1 ⟨gt, 0, none⟩ 1 1 [.slice A' y.length C'] hx rfl ?_ (by simp [Value.oneCell']) (by decide) (by simp only [maxLen]; omega) (by omega) hbase w.heap.size rfl ?_
  · intro j u hu
    cases j with
    | zero => simp at hu; subst hu; exact hg
    | succ j => simp at hu
  · intro g cap w' k1 k2 k3 k4
    refine h _ w' ?_ k2
    have hl : hs0.length = X.length := by have := h1.1; omega
    refine OwnRs.snoc h1 h2 hr hc hm hne k1 k2 ?_
    · intro g' hg'
      simp [Value.ownBlock] at hg'
      subst hg'
      rcases k3 with k3 | k3
      · exact .inl k3
      · exact .inr (by omega)
end
section
open Go.RowKit Go.Sort

theorem StrOk.at_ {x : RL.R} (h : StrOk x) {i : Nat} (hi : i < x.length) : x[i].str.size ≤ 1000000000 := h _ (List.getElem_mem hi)

set_option maxHeartbeats 400000 in
theorem r7Compare_any (XA YA : Option Addr) (XC YC : Nat) (x y : RL.R) (w : World) (hx : SlR w.heap.size w XA x) (hy : SlR w.heap.size w YA y) (hxo : ROk x) (hyo : ROk y) :
    Calls Tryz.prog 66 #[.slice XA x.length XC, .slice YA y.length YC] w fun e w' => e = .returned (.int .i64 (RL.cmpR x y)) ∧ Ext w w' := by
  have HX := Lib.hid hx
  have HY := Lib.hid hy
  have HXO := Lib.hid hxo.2
  have HYO := Lib.hid hyo.2
  have hxl := hxo.1
  have hyl := hyo.1
  clear hx hy hxo hyo
  go_enter Tryz.func66, Tryz.ntmps66
  go_wp2
  go_loopw [5] (fun i wr => ∃ k : Nat, k ≤ x.length ∧ k ≤ y.length ∧ i = .int .i64 k ∧ RL.cmpR x y = RL.cmpR (x.drop k) (y.drop k) ∧ Ext w wr) (fun i _ => x.length - (intOf i).toNat)
  case atStart => exact ⟨0, Nat.zero_le _, Nat.zero_le _, rfl, by simp, Ext.refl _⟩
  case round =>
    obtain ⟨k, hka, hkb, rfl, hd, he⟩ := hrel
    have HD := Lib.hid hd
    clear hd
    by_cases h1 : k < x.length
    · by_cases h2 : k < y.length
      · obtain ⟨b, o, rfl, hb, c1, c2, c3⟩ := slR_at HX.out h1
        obtain ⟨b', o', rfl, hb', c1', c2', c3'⟩ := slR_at HY.out h2
        obtain ⟨hc, hf⟩ := he.rules
        have HN : Hid (RL.cmpV x[k] y[k] ≠ 0 → RL.cmpR x y = RL.cmpV x[k] y[k]) := fun h => HD.out.trans (cmpR_drop_ne h1 h2 h)
        have HZ : Hid (RL.cmpV x[k] y[k] = 0 → RL.cmpR x y = RL.cmpR (x.drop (k + 1)) (y.drop (k + 1))) := fun h => HD.out.trans (cmpR_drop h1 h2 h)
        have HC := Lib.hid (fun W => r1Compare_any x[k] y[k] W (HXO.out.at_ h1) (HYO.out.at_ h2))
        generalize x[k] = u at c1 c2 c3 HN HZ HC
        generalize y[k] = v at c1' c2' c3' HN HZ HC
        go_wp2
        go_still_tail 8, (by kernel_rfl)
        go_wp2_with fail
        refine (HC.out _).mono ?_
        rintro e w2 ⟨rfl, hx2⟩
        have HE2 := Lib.hid (he.drew.trans hx2)
        clear hc hf c1 c2 c3 c1' c2' c3' hx2 he HC
        by_cases hz : RL.cmpV u v = 0
        · have HZ2 := Lib.hid (HZ.out hz)
          have hz2 : (RL.cmpV u v != 0) = false := by simpa using hz
          clear hz HZ HN
          generalize RL.cmpV u v = c at *
          go_wp2
          go_roundw
          case rel => exact ⟨k + 1, by omega, by omega, by go_num, HZ2.out, HE2.out⟩
          case measure => simp [intOf]; omega
        · have HN2 := Lib.hid (HN.out hz)
          have hz2 : (RL.cmpV u v != 0) = true := by simpa using hz
          clear hz HZ HN
          generalize RL.cmpV u v = c at *
          go_wp2
          go_ret
          exact ⟨ret_int HN2.out.symm, HE2.out⟩
      · have HR := Lib.hid (HD.out.trans (cmpR_end hka hkb (.inr (by omega))))
        clear HD
        by_cases g1 : x.length < y.length
        · have HR2 := Lib.hid (HR.out.trans (if_pos g1))
          go_wp2
          go_ret
          exact ⟨ret_int HR2.out.symm, he⟩
        · by_cases g2 : y.length < x.length
          · have HR2 := Lib.hid ((HR.out.trans (if_neg g1)).trans (if_pos g2))
            go_wp2
            go_ret
            exact ⟨ret_int HR2.out.symm, he⟩
          · have HR2 := Lib.hid ((HR.out.trans (if_neg g1)).trans (if_neg g2))
            go_wp2
            go_ret
            exact ⟨ret_int HR2.out.symm, he⟩
    · have HR := Lib.hid (HD.out.trans (cmpR_end hka hkb (.inl (by omega))))
      clear HD
      by_cases g1 : x.length < y.length
      · have HR2 := Lib.hid (HR.out.trans (if_pos g1))
        go_wp2
        go_ret
        exact ⟨ret_int HR2.out.symm, he⟩
      · by_cases g2 : y.length < x.length
        · have HR2 := Lib.hid ((HR.out.trans (if_neg g1)).trans (if_pos g2))
          go_wp2
          go_ret
          exact ⟨ret_int HR2.out.symm, he⟩
        · have HR2 := Lib.hid ((HR.out.trans (if_neg g1)).trans (if_neg g2))
          go_wp2
          go_ret
          exact ⟨ret_int HR2.out.symm, he⟩

theorem eq_drop_step {X Y : List RL.R} {k : Nat} (h1 : k < X.length) (h2 : k < Y.length) : (X.drop k = Y.drop k) ↔ (X[k] = Y[k] ∧ X.drop (k + 1) = Y.drop (k + 1)) := by
  rw [List.drop_eq_getElem_cons h1, List.drop_eq_getElem_cons h2, List.cons.injEq]

set_option maxHeartbeats 400000 in
theorem r7Same_any (XA YA : Option Addr) (XC YC : Nat) (X Y : List RL.R) (w : World) (hX : SlRs w.heap.size w XA X) (hY : SlRs w.heap.size w YA Y) (hXl : X.length ≤ 1000000) (hYl : Y.length ≤ 1000000) (hXo : RsOk X) (hYo : RsOk Y) :
    Calls Tryz.prog 41 #[.slice XA X.length XC, .slice YA Y.length YC] w fun e w' => e = .returned (.bool (decide (X = Y))) ∧ Ext w w' := by
  by_cases hl : X.length = Y.length
  rotate_left
  · have hd : decide (X = Y) = false := by simp; intro h; subst h; exact hl rfl
    rw [hd]
    have hne : ((X.length : Int) != (Y.length : Int)) = true := by simp; omega
    clear hX hY hl hXo hYo
    go_enter Tryz.func41, Tryz.ntmps41
    go_wp2
    go_ret
    exact ⟨rfl, Ext.refl _⟩
  have hne : ((X.length : Int) != (Y.length : Int)) = false := by simp; omega
  have HL := Lib.hid hl
  have HX := Lib.hid hX
  have HY := Lib.hid hY
  have HXO := Lib.hid hXo
  have HYO := Lib.hid hYo
  clear hX hY hXo hYo hl
  go_enter Tryz.func41, Tryz.ntmps41
  go_wp2
  go_loopw [5] (fun i wr => ∃ k : Nat, k ≤ X.length ∧ i = .int .i64 k ∧ (X = Y ↔ X.drop k = Y.drop k) ∧ Ext w wr) (fun i _ => X.length - (intOf i).toNat)
  case atStart => exact ⟨0, Nat.zero_le _, rfl, by simp, Ext.refl _⟩
  case round =>
    obtain ⟨k, hka, rfl, hd, he⟩ := hrel
    have HD := Lib.hid hd
    clear hd
    by_cases h1 : k < X.length
    · have h2 : k < Y.length := by have := HL.out; omega
      obtain ⟨b, o, A1, C1, rfl, hb, c1, -, -, s1⟩ := slRs_at HX.out h1
      obtain ⟨b', o', A2, C2, rfl, hb', c2, -, -, s2⟩ := slRs_at HY.out h2
      obtain ⟨hc, hf⟩ := he.rules
      have HN := Lib.hid (HD.out.trans (eq_drop_step h1 h2))
      have HC := Lib.hid (fun W (hx : Ext w W) => r7Compare_any A1 A2 C1 C2 X[k] Y[k] W ((s1.ext (Nat.le_refl _) hx).more hx.size) ((s2.ext (Nat.le_refl _) hx).more hx.size) (HXO.out.at_ h1) (HYO.out.at_ h2))
      clear s1 s2
      generalize X[k] = u at c1 HN HC
      generalize Y[k] = v at c2 HN HC
      go_wp2
      go_still_tail 8, (by kernel_rfl)
      go_wp2_with fail
      refine (HC.out _ he.drew).mono ?_
      rintro e w2 ⟨rfl, hx2⟩
      have HE2 := Lib.hid (he.drew.trans hx2)
      clear hc hf c1 c2 hx2 he HC
      by_cases hz : RL.cmpR u v = 0
      · have hz2 : (RL.cmpR u v != 0) = false := by simpa using hz
        have HZ : Hid (X = Y ↔ X.drop (k + 1) = Y.drop (k + 1)) := by
          show _ ↔ _
          rw [HN.out, (RL.tot_cmpR.z u v).1 hz]; simp
        clear hz HN
        generalize RL.cmpR u v = c at *
        go_wp2
        go_roundw
        case rel => exact ⟨k + 1, by omega, by go_num, HZ.out, HE2.out⟩
        case measure => simp [intOf]; omega
      · have hz2 : (RL.cmpR u v != 0) = true := by simpa using hz
        have HZ : Hid (decide (X = Y) = false) := by
          show _ = _
          simp only [decide_eq_false_iff_not]
          rw [HN.out]
          exact fun h => hz ((RL.tot_cmpR.z u v).2 h.1)
        clear hz HN
        generalize RL.cmpR u v = c at *
        go_wp2
        go_ret
        exact ⟨ret_bool HZ.out.symm, HE2.out⟩
    · have HR : Hid (decide (X = Y) = true) := by
        show _ = _
        simp only [decide_eq_true_eq]
        rw [HD.out, List.drop_of_length_le (by omega), List.drop_of_length_le (by have := HL.out; omega)]
      go_wp2
      go_ret
      exact ⟨ret_bool HR.out.symm, he⟩

def wrongF (n : Int) (x : RL.R) : Int := if (x.length : Int) ≠ n then 6 else if x.all RL.validV = true then 0 else 4

theorem rank_snoc (X : List RL.R) (r : RL.R) (k : Nat) (h : k < X.length) : RL.rank (X.take (k + 1)) r = RL.rank (X.take k) r + if RL.cmpR X[k] r < 0 then 1 else 0 := by
  rw [List.take_succ_eq_append_getElem h]
  unfold RL.rank
  rw [List.countP_append]
  by_cases hc : RL.cmpR X[k] r < 0 <;> simp [hc]
theorem mem_snoc (X : List RL.R) (r : RL.R) (k : Nat) (h : k < X.length) : r ∈ X.take (k + 1) ↔ r ∈ X.take k ∨ RL.cmpR X[k] r = 0 := by
  rw [List.take_succ_eq_append_getElem h, List.mem_append, RL.tot_cmpR.z]
  simp [eq_comm]

set_option maxHeartbeats 1000000 in
theorem r7Search_any (XA A : Option Addr) (XC C : Nat) (X : List RL.R) (r : RL.R) (w : World) (hX : SlRs w.heap.size w XA X) (hr : SlR w.heap.size w A r) (hXl : X.length ≤ 1000000) (hXo : RsOk X) (hro : ROk r) :
    Calls Tryz.prog 86 #[.slice XA X.length XC, .slice A r.length C] w fun e w' => e = .returned (.tuple #[.int .i64 (RL.rank X r), .bool (decide (r ∈ X))]) ∧ Ext w w' := by
  have HX := Lib.hid hX
  have HR := Lib.hid hr
  have HXO := Lib.hid hXo
  have HRO := Lib.hid hro
  clear hX hr hXo hro
  go_enter Tryz.func86, Tryz.ntmps86
  go_wp2
  go_loopw [6, 7, 8] (fun n s i wr => ∃ k : Nat, k ≤ X.length ∧ i = .int .i64 k ∧ n = .int .i64 (RL.rank (X.take k) r) ∧ s = .bool (decide (r ∈ X.take k)) ∧ Ext w wr) (fun _ _ i _ => X.length - (intOf i).toNat)
  case atStart => exact ⟨0, Nat.zero_le _, rfl, rfl, by simp, Ext.refl _⟩
  case round =>
    obtain ⟨k, hka, rfl, rfl, rfl, he⟩ := hrel
    by_cases h1 : k < X.length
    · obtain ⟨b, o, A1, C1, rfl, hb, c1, -, -, s1⟩ := slRs_at HX.out h1
      obtain ⟨hc, hf⟩ := he.rules
      have hrk : RL.rank (X.take k) r ≤ k := by have := RL.rank_le (X.take k) r; simp at this; omega
      have HN := Lib.hid (rank_snoc X r k h1)
      have HM := Lib.hid (mem_snoc X r k h1)
      have HC := Lib.hid (fun W (hx : Ext w W) => r7Compare_any A1 A C1 C X[k] r W ((s1.ext (Nat.le_refl _) hx).more hx.size) ((HR.out.ext (Nat.le_refl _) hx).more hx.size) (HXO.out.at_ h1) HRO.out)
      clear s1
      generalize X[k] = u at c1 HN HM HC
      generalize RL.rank (X.take k) r = rk at *
      generalize hdm : decide (r ∈ X.take k) = dm at *
      have HDM := Lib.hid hdm
      clear hdm
      go_wp2_with fail
      refine (HC.out _ he).mono ?_
      rintro e w2 ⟨rfl, hx2⟩
      have HE2 := Lib.hid (he.trans hx2)
      clear hc hf c1 hx2 he HC
      generalize RL.cmpR u r = c at *
      by_cases hlt : c < 0
      · have hz2 : (c == 0) = false := by simp; omega
        have HK : Hid (RL.rank (X.take (k + 1)) r = rk + 1) := by show _ = _; rw [HN.out, if_pos hlt]
        have HK2 : Hid (decide (r ∈ X.take (k + 1)) = dm) := by
          show _ = _
          rw [← HDM.out, Bool.eq_iff_iff]; simp only [decide_eq_true_eq]; rw [HM.out]; constructor
          · rintro (h | h)
            · exact h
            · omega
          · exact .inl
        clear HN HM HDM
        go_wp2
        go_roundw
        case rel => exact ⟨k + 1, by omega, by go_num, by rw [HK.out]; go_num, by rw [HK2.out], HE2.out⟩
        case measure => simp [intOf]; omega
      · by_cases hz : c = 0
        · subst hz
          have HK : Hid (RL.rank (X.take (k + 1)) r = rk) := by show _ = _; rw [HN.out, if_neg hlt]; rfl
          have HK2 : Hid (decide (r ∈ X.take (k + 1)) = true) := by
            show _ = _
            simp only [decide_eq_true_eq]; rw [HM.out]; exact .inr rfl
          clear HN HM HDM
          go_wp2
          go_roundw
          case rel => exact ⟨k + 1, by omega, by go_num, by rw [HK.out], by rw [HK2.out], HE2.out⟩
          case measure => simp [intOf]; omega
        · have hz2 : (c == 0) = false := by simpa using hz
          have HK : Hid (RL.rank (X.take (k + 1)) r = rk) := by show _ = _; rw [HN.out, if_neg hlt]; rfl
          have HK2 : Hid (decide (r ∈ X.take (k + 1)) = dm) := by
            show _ = _
            rw [← HDM.out, Bool.eq_iff_iff]; simp only [decide_eq_true_eq]; rw [HM.out]; constructor
            · rintro (h | h)
              · exact h
              · exact absurd h hz
            · exact .inl
          clear HN HM HDM
          go_wp2
          go_roundw
          case rel => exact ⟨k + 1, by omega, by go_num, by rw [HK.out], by rw [HK2.out], HE2.out⟩
          case measure => simp [intOf]; omega
    · have HT := Lib.hid (List.take_of_length_le (show X.length ≤ k by omega))
      rw [HT.out]
      clear HT
      go_wp2
      go_ret2
      exact ⟨rfl, he⟩
end
section
open Go.RowKit Go.Sort

set_option maxHeartbeats 1000000 in
theorem l7Row_any (XA : Option Addr) (XC : Nat) (x : RL.R) (w : World) (hx : SlR w.heap.size w XA x) (hxl : x.length ≤ 1000000) :
    Calls Tryz.prog 49 #[.slice XA x.length XC] w fun e w' => ∃ v, e = .returned v ∧ w'.ownsRow w.heap.size 114 3 v x.length (rcells x) ∧ Below w.heap.size w w' := by
  have HX := Lib.hid hx
  clear hx
  go_enter Tryz.func49, Tryz.ntmps49
  go_wp2
  go_loopw [3, 8] (fun v i wr => ∃ k : Nat, k ≤ x.length ∧ i = .int .i64 k ∧ wr.ownsRow w.heap.size 114 3 v (x.take k).length (rcells (x.take k)) ∧ Below w.heap.size w wr) (fun _ i _ => x.length - (intOf i).toNat)
  case atStart => exact ⟨0, Nat.zero_le _, rfl, own_nil _ _ _ _, Below.refl _ _⟩
  case round =>
    obtain ⟨k, hka, rfl, hown, hbel⟩ := hrel
    have HO := Lib.hid hown
    have HB := Lib.hid hbel
    have hzz := hbel.size
    have hlt := List.length_take_le k x
    clear hown
    by_cases h1 : k < x.length
    · obtain ⟨b, o, rfl, hb, c1, c2, c3⟩ := slR_at HX.out h1
      have d1 := (hbel.cell (p := ⟨b, o + k * 3, none⟩) hb).trans c1
      have d2 := (hbel.cell (p := ⟨b, o + k * 3 + 1, none⟩) hb).trans c2
      have d3 := (hbel.cell (p := ⟨b, o + k * 3 + 2, none⟩) hb).trans c3
      have HT := Lib.hid (List.take_succ_eq_append_getElem h1)
      clear c1 c2 c3 hbel
      generalize x[k] = u at d1 d2 d3 HT
      go_wp2_with (at_builtin; refine app1W rfl (.tmp 12) (.tmp 14) rfl w.heap.size u3 (x.take k) rfl ((HO.out.alloc _).alloc _) (wr.heap.size + 1) u rfl (by go_simp) (by go_simp) (by go_simp) (by omega) (by simp; omega) ?_
                   intro v' w1 hown1 hg1
                   have HO1 := Lib.hid hown1
                   have HB1 := Lib.hid (Below.then HB.out (app_kept2 (B := w.heap.size) (fun g hg => own_base HO.out hg) (by omega) hg1) (Nat.le_refl _))
                   clear hown1 hg1 d1 d2 d3)
      go_roundw
      case rel => exact ⟨k + 1, by omega, by go_num, by rw [HT.out]; exact HO1.out, HB1.out⟩
      case measure => simp [intOf]; omega
    · have HT := Lib.hid (List.take_of_length_le (show x.length ≤ k by omega))
      rw [HT.out] at HO
      go_wp2
      go_ret
      exact ⟨_, rfl, HO.out, hbel⟩
end
section
open Go.RowKit Go.Sort

set_option maxHeartbeats 1000000 in
theorem l7Rows_any (XA : Option Addr) (XC : Nat) (X : List RL.R) (w : World) (hX : SlRs w.heap.size w XA X) (hXl : X.length ≤ 1000000) (hXo : RsOk X) :
    Calls Tryz.prog 25 #[.slice XA X.length XC] w fun e w' => ∃ v, e = .returned v ∧ OwnRs w' w.heap.size 103 v X ∧ Below w.heap.size w w' := by
  have HX := Lib.hid hX
  have HXO := Lib.hid hXo
  clear hX hXo
  go_enter Tryz.func25, Tryz.ntmps25
  go_wp2
  go_loopw [3, 8] (fun v i wr => ∃ k : Nat, k ≤ X.length ∧ i = .int .i64 k ∧ OwnRs wr w.heap.size 103 v (X.take k) ∧ Below w.heap.size w wr) (fun _ i _ => X.length - (intOf i).toNat)
  case atStart => exact ⟨0, Nat.zero_le _, rfl, OwnRs.nil _ _ _, Below.refl _ _⟩
  case round =>
    obtain ⟨k, hka, rfl, hown, hbel⟩ := hrel
    have HO := Lib.hid hown
    have HB := Lib.hid hbel
    have hzz := hbel.size
    have hlt := List.length_take_le k X
    clear hown
    by_cases h1 : k < X.length
    · obtain ⟨b, o, A1, C1, rfl, hb, c1, -, -, s1⟩ := slRs_at HX.out h1
      have d1 := (hbel.cell (p := ⟨b, o + k, none⟩) hb).trans c1
      have HT := Lib.hid (List.take_succ_eq_append_getElem h1)
      have HC := Lib.hid (l7Row_any A1 C1 X[k] wr ((s1.below hbel (Nat.le_refl _)).more hzz) (HXO.out.at_ h1).1)
      clear c1 s1 hbel
      generalize X[k] = x at d1 HT HC
      go_wp2_with fail
      refine HC.out.mono ?_
      rintro e w1 ⟨v1, rfl, hown1, hb1⟩
      obtain ⟨-, A2, C2, rfl, hc2, hm2, hs2, hfr⟩ := SlR.of_own hown1
      have HO1 := Lib.hid ((HO.out.keep hb1).keep ((Below.refl _ _).alloc (Nat.le_refl _) (.cells #[.slice A2 x.length C2] 103)))
      have HB1 := Lib.hid ((Below.then HB.out hb1 hzz).alloc (by have := hb1.size; omega) (.cells #[.slice A2 x.length C2] 103))
      have HS2 := Lib.hid (hs2.alloc1 (.cells #[.slice A2 x.length C2] 103))
      have hz1 := hb1.size
      have HFR := Lib.hid hfr
      have HLT := Lib.hid (fun g hg => (own_lt (HO.out).choose_spec.1 g hg))
      clear hown1 hb1 hs2 hfr d1 HC
      go_wp2_with (at_builtin; refine app1R7 rfl (.tmp 12) (.tmp 15) rfl w.heap.size u3 (X.take k) rfl HO1.out w1.heap.size A2 C2 x rfl (by go_simp) HS2.out hc2 hm2 (fun _ ad e e2 => by have h3 := HFR.out ad e; have h4 := HLT.out _ e2; omega) (by omega) (by simp; omega) ?_
                   intro v' w2 hown2 hg2
                   have HO2 := Lib.hid hown2
                   have HB2 := Lib.hid (HB1.out.grown hg2 (by simp; omega) HO1.out.base)
                   clear hown2 hg2)
      go_roundw
      case rel => exact ⟨k + 1, by omega, by go_num, by rw [HT.out]; exact HO2.out, HB2.out⟩
      case measure => simp [intOf]; omega
    · have HT := Lib.hid (List.take_of_length_le (show X.length ≤ k by omega))
      rw [HT.out] at HO
      go_wp2
      go_ret
      exact ⟨_, rfl, HO.out, hbel⟩

theorem rlNew_ok (n : Int) (w : World) (h0 : 0 ≤ n) (h1 : n ≤ 32) : Calls Tryz.prog 45 #[.int .i64 n] w fun e w' => e = .returned (.tuple #[.agg #[.int .i64 n, .slice none 0 0], .int .i64 0]) ∧ Ext w w' := by
  have h' : ¬ n < 0 := by omega
  have h2 : ¬ 32 < n := by omega
  go_enter Tryz.func45, Tryz.ntmps45
  go_wp2
  exact bodyPost_ret (v := .tuple #[.agg #[.int .i64 n, .slice none 0 0], .int .i64 0]) (by simp [results, Tryz.results45, go_sem]) rfl ⟨rfl, (Ext.refl w).alloc _⟩

theorem rlArity_any (n : Int) (A : Option Addr) (l C : Nat) (w : World) : Calls Tryz.prog 31 #[.agg #[.int .i64 n, .slice A l C]] w fun e w' => e = .returned (.int .i64 n) ∧ Ext w w' := by
  go_enter Tryz.func31, Tryz.ntmps31
  go_wp2
  go_ret
  exact ⟨rfl, (Ext.refl w).alloc _⟩
theorem rlLen_any (n : Int) (A : Option Addr) (l C : Nat) (w : World) : Calls Tryz.prog 12 #[.agg #[.int .i64 n, .slice A l C]] w fun e w' => e = .returned (.int .i64 l) ∧ Ext w w' := by
  go_enter Tryz.func12, Tryz.ntmps12
  go_wp2
  go_ret
  exact ⟨rfl, (Ext.refl w).alloc _⟩

set_option maxHeartbeats 400000 in
theorem rlAccepts_any (n : Int) (RA A : Option Addr) (l RC C : Nat) (x : RL.R) (w : World) (hx : SlR w.heap.size w A x) (hxo : ROk x) :
    Calls Tryz.prog 46 #[.agg #[.int .i64 n, .slice RA l RC], .slice A x.length C] w fun e w' => e = .returned (.int .i64 (wrongF n x)) ∧ Ext w w' := by
  have hxl := hxo.1
  by_cases hn : (x.length : Int) = n
  rotate_left
  · have hr : wrongF n x = 6 := by unfold wrongF; rw [if_pos hn]
    rw [hr]
    have hne : ((x.length : Int) != n) = true := by simpa using hn
    clear hr hn hx hxo
    go_enter Tryz.func46, Tryz.ntmps46
    go_wp2
    go_ret
    exact ⟨rfl, (Ext.refl w).alloc _⟩
  subst hn
  have HW : Hid (wrongF (x.length : Int) x = if x.all RL.validV = true then 0 else 4) := by show _ = _; unfold wrongF; rw [if_neg (by simp)]
  have HC := Lib.hid (fun o => rwValid_any A C x (w.alloc o) (hx.alloc1 o) hxl hxo.2)
  clear hx hxo
  generalize wrongF (x.length : Int) x = q at *
  cases hv : x.all RL.validV
  · rw [hv] at HC HW
    clear hv
    go_enter Tryz.func46, Tryz.ntmps46
    go_wp2_with (go_at_call 69; refine (HC.out _).mono ?_; rintro e w' ⟨rfl, hx⟩)
    go_ret
    exact ⟨ret_int HW.out.symm, ((Ext.refl w).alloc _).trans hx⟩
  · rw [hv] at HC HW
    clear hv
    go_enter Tryz.func46, Tryz.ntmps46
    go_wp2_with (go_at_call 69; refine (HC.out _).mono ?_; rintro e w' ⟨rfl, hx⟩)
    go_ret
    exact ⟨ret_int HW.out.symm, ((Ext.refl w).alloc _).trans hx⟩

theorem cloneRow_any (A : Option Addr) (C : Nat) (x : RL.R) (w : World) (hx : SlR w.heap.size w A x) (hxl : x.length ≤ 1000000) :
    Calls Tryz.prog 50 #[.slice A x.length C] w fun e w' => ∃ v, e = .returned v ∧ w'.ownsRow w.heap.size 71 3 v x.length (rcells x) ∧ Below w.heap.size w w' := by
  rcases A with _ | ad
  · have hz : x = [] := by
      cases x with
      | nil => rfl
      | cons z zs => obtain ⟨b, o, e, _⟩ := hx (by simp [rcells, vcells]); cases e
    subst hz
    exact Calls.mono (AnyE.slices_Clone_nil lCloneRow 0 C w) fun e w' ⟨h1, h2⟩ => ⟨_, h1, by subst h2; exact own_nil _ _ _ _, by subst h2; exact Below.refl _ _⟩
  · obtain ⟨i0, hi0, hz0, hz1, hz2⟩ := info_parts valInfo
    by_cases hx0 : x = []
    · subst hx0
      have hnil := fun w => Lib.run_eql_slice_nil (P := Tryz.prog) w 69 71 (some ad) 0 C 0 0 Tryz.underlying69
      have HO : Hid ((w.alloc (.cells #[] 71)).ownsRow w.heap.size 71 3 (.slice (some ⟨w.heap.size, 0, none⟩) 0 0) 0 []) := ⟨rfl, .inr ⟨w.heap.size, 0, #[], rfl, Nat.le_refl _, heap_alloc_new w _, Nat.le_refl _, by simp [maxLen], rfl, rfl⟩⟩
      clear hx hxl
      simp only [List.length_nil] at *
      go_enter Tryz.func50, Tryz.ntmps50
      go_wp2_with (at_builtin; refine wpList_append_own _ rfl (.tmp 5) (.tmp 6) 69 rfl w.heap.size 71 i0 _ 3 32 Tryz.underlying69 hi0 hz0 hz1 hz2 rfl (by decide) (.slice (some ⟨w.heap.size, 0, none⟩) 0 0) 0 [] rfl HO.out ad 0 C [] rfl (by simp) (fun j u hu => by simp at hu) (by simp) (by simp only [maxLen]; omega) (by omega) (by simp) ?_; intro v' w' hown' hg' hn'; have HO' := Lib.hid hown'; have HG := Lib.hid hg'; clear hown' hg' hn')
      go_ret
      refine ⟨_, rfl, HO'.out, ?_⟩
      refine ((Below.refl _ _).alloc (Nat.le_refl _) _).grown HG.out (by simp) ?_
      intro k hk
      simp [Value.ownBlock] at hk
      omega
    · obtain ⟨b, o, e, hb, hc⟩ := hx (by intro h0; have := congrArg List.length h0; rw [rcells_length] at this; exact hx0 (List.eq_nil_of_length_eq_zero (by simp only [List.length_nil] at this; omega)))
      injection e with e
      subst e
      have h := AnyE.slices_Clone lCloneRow i0 _ 3 32 hi0 hz0 hz1 hz2 rfl (by decide) Tryz.sizeOf71 b o x.length C (rcells x) w (rcells_length x) (by simp only [maxLen]; omega) (by omega) hc (rcells_one x)
      exact Calls.mono h fun e w' ⟨v, h1, h2, _, h4⟩ => ⟨v, h1, h2, h4⟩

theorem cloneRows_any (A : Option Addr) (C : Nat) (X : List RL.R) (w : World) (hX : SlRs w.heap.size w A X) (hXl : X.length ≤ 1000000) :
    Calls Tryz.prog 48 #[.slice A X.length C] w fun e w' => ∃ v, e = .returned v ∧ OwnRs w' w.heap.size 69 v X ∧ (∃ hs : List Value, w'.ownsRow w.heap.size 69 1 v X.length hs ∧ ∀ i (h : i < X.length), ∃ A' C', hs[i]? = some (.slice A' X[i].length C') ∧ X[i].length ≤ C' ∧ C' ≤ 9223372036854775807 ∧ SlR w.heap.size w A' X[i]) ∧ Below w.heap.size w w' := by
  have fin : ∀ (v : Value) (w' : World) (hs : List Value), w'.ownsRow w.heap.size 69 1 v X.length hs → (∀ i (h : i < X.length), ∃ A' C', hs[i]? = some (.slice A' X[i].length C') ∧ X[i].length ≤ C' ∧ C' ≤ 9223372036854775807 ∧ SlR w.heap.size w A' X[i]) → Below w.heap.size w w' → OwnRs w' w.heap.size 69 v X := fun v w' hs h1 h2 h3 => by
    refine ⟨hs, h1, fun i hi => ?_⟩
    obtain ⟨A', C', g1, g2, g3, g4⟩ := h2 i hi
    refine ⟨A', C', g1, g2, g3, g4.upB h3, fun hne ad e e2 => ?_⟩
    obtain ⟨b, o, e', hb, _⟩ := g4 (by
      intro h0
      have := congrArg List.length h0
      rw [rcells_length] at this
      exact hne (List.eq_nil_of_length_eq_zero (by simp only [List.length_nil] at this; omega)))
    rw [e] at e'
    injection e' with e'
    have := own_base h1 e2
    rw [e'] at this
    simp only at this
    omega
  rcases A with _ | ad
  · have hz : X = [] := by
      cases X with
      | nil => rfl
      | cons z zs => obtain ⟨b, o, e, _⟩ := hX (by simp); cases e
    subst hz
    exact Calls.mono (AnyE.slices_Clone_nil lCloneRows 0 C w) fun e w' ⟨h1, h2⟩ => ⟨_, h1, by subst h2; exact OwnRs.nil _ _ _, ⟨[], by subst h2; exact own_nil _ _ _ _, fun i h => absurd h (by simp)⟩, by subst h2; exact Below.refl _ _⟩
  · obtain ⟨i0, hi0, hz0, hz1, hz2⟩ := info_parts rowInfo
    by_cases hx0 : X = []
    · subst hx0
      have hnil := fun w => Lib.run_eql_slice_nil (P := Tryz.prog) w 32 69 (some ad) 0 C 0 0 Tryz.underlying32
      have HO : Hid ((w.alloc (.cells #[] 69)).ownsRow w.heap.size 69 1 (.slice (some ⟨w.heap.size, 0, none⟩) 0 0) 0 []) := ⟨rfl, .inr ⟨w.heap.size, 0, #[], rfl, Nat.le_refl _, heap_alloc_new w _, Nat.le_refl _, by simp [maxLen], rfl, rfl⟩⟩
      have FIN := Lib.hid fin
      clear hX hXl fin
      simp only [List.length_nil] at *
      go_enter Tryz.func48, Tryz.ntmps48
      go_wp2_with (at_builtin; refine wpList_append_own _ rfl (.tmp 5) (.tmp 6) 32 rfl w.heap.size 69 i0 _ 1 24 Tryz.underlying32 hi0 hz0 hz1 hz2 rfl (by decide) (.slice (some ⟨w.heap.size, 0, none⟩) 0 0) 0 [] rfl HO.out ad 0 C [] rfl (by simp) (fun j u hu => by simp at hu) (by simp) (by simp only [maxLen]; omega) (by omega) (by simp) ?_; intro v' w' hown' hg' hn'; have HO' := Lib.hid hown'; have HG := Lib.hid hg'; clear hown' hg' hn')
      go_ret
      have hbel : Below w.heap.size w w' := ((Below.refl _ _).alloc (Nat.le_refl _) _).grown HG.out (by simp) (fun k hk => by simp [Value.ownBlock] at hk; omega)
      exact ⟨_, rfl, FIN.out _ _ _ HO'.out (fun i h => absurd h (by simp)) hbel, ⟨_, HO'.out, fun i h => absurd h (by simp)⟩, hbel⟩
    · obtain ⟨b, o, e, hb, hc⟩ := hX hx0
      injection e with e
      subst e
      -- the headers
      have hh : ∃ hs : List Value, hs.length = X.length ∧ (∀ u ∈ hs, u.oneCell' = true) ∧ (∀ j u, hs[j]? = some u → w.cell? ⟨b, o + j, none⟩ = some u) ∧ ∀ i (h : i < X.length), ∃ A' C', hs[i]? = some (.slice A' X[i].length C') ∧ X[i].length ≤ C' ∧ C' ≤ 9223372036854775807 ∧ SlR w.heap.size w A' X[i] := by
        refine ⟨(List.range X.length).map fun i => (w.cell? ⟨b, o + i, none⟩).getD (.slice none 0 0), by simp, ?_, ?_, ?_⟩
        · intro u hu
          simp at hu
          obtain ⟨i, hi, rfl⟩ := hu
          obtain ⟨A', C', h1, _⟩ := hc i hi
          rw [h1]; rfl
        · intro j u hu
          obtain ⟨hj, e⟩ := List.getElem?_eq_some_iff.1 hu
          simp at hj
          simp at e
          obtain ⟨A', C', h1, _⟩ := hc j hj
          rw [h1] at e ⊢
          rw [← e]; rfl
        · intro i hi
          obtain ⟨A', C', h1, h2, h3, h4⟩ := hc i hi
          refine ⟨A', C', ?_, h2, h3, h4⟩
          rw [List.getElem?_eq_getElem (by simpa using hi)]
          simp [h1]
      obtain ⟨hs, hl, ho, hcell, hrow⟩ := hh
      have h := AnyE.slices_Clone lCloneRows i0 _ 1 24 hi0 hz0 hz1 hz2 rfl (by decide) Tryz.sizeOf69 b o X.length C hs w (by omega) (by simp only [maxLen]; omega) (by omega) hcell ho
      exact Calls.mono h fun e w' ⟨v, h1, h2, _, h4⟩ => ⟨v, h1, fin v w' hs h2 hrow h4, ⟨hs, h2, hrow⟩, h4⟩
end
section
open Go.RowKit Go.Sort

def MadeRs (w : World) (g : Nat) (E : TypeId) (X : List RL.R) (k B : Nat) : Prop :=
  ∃ hs : List Value, Row w g E hs ∧ hs.length = X.length ∧ B ≤ g ∧ ∀ i (h : i < X.length), i < k → ∃ A' C', hs[i]? = some (.slice A' X[i].length C') ∧ X[i].length ≤ C' ∧ C' ≤ 9223372036854775807 ∧ SlR w.heap.size w A' X[i] ∧ (X[i] ≠ [] → ∀ ad, A' = some ad → ad.block ≠ g ∧ B ≤ ad.block ∧ ∀ o, w.frozen? ⟨ad.block, o, none⟩ = false)
theorem SlR.ltB {B : Nat} {w : World} {A : Option Addr} {y : RL.R} (h : SlR B w A y) : y ≠ [] → ∀ ad, A = some ad → ad.block < B := fun hy ad e => by
  obtain ⟨b, o, e', hb, _⟩ := h (fun h0 => by
    have := congrArg List.length h0
    rw [rcells_length] at this
    exact hy (List.eq_nil_of_length_eq_zero (by simp only [List.length_nil] at this; omega)))
  rw [e] at e'
  injection e' with e'
  rw [e']
  exact hb
theorem own_frozen {w : World} {base : Nat} {e : TypeId} {size : Nat} {A : Option Addr} {n C : Nat} {xs : List Value} (h : w.ownsRow base e size (.slice A n C) n xs) : ∀ ad, A = some ad → ∀ o, w.frozen? ⟨ad.block, o, none⟩ = false := fun ad e2 o => by
  subst e2
  rcases h.2 with ⟨h1, _⟩ | ⟨g, cap, cur, h1, _, hh, _⟩
  · injection h1 with h1; cases h1
  · injection h1 with h1
    injection h1 with h1
    subst h1
    simp [World.frozen?, hh]

section
variable {w w' : World} {g : Nat} {E : TypeId} {X : List RL.R} {k B : Nat}
theorem MadeRs.keep (h : MadeRs w g E X k B) (hb : Below w.heap.size w w') : MadeRs w' g E X k B := by
  obtain ⟨hs, h1, h2, h3, h4⟩ := h
  refine ⟨hs, h1.below hb h1.lt, h2, h3, fun i hi hk => ?_⟩
  obtain ⟨A', C', g1, g2, g3, g4, g5⟩ := h4 i hi hk
  exact ⟨A', C', g1, g2, g3, g4.upB hb, fun hy ad e => ⟨(g5 hy ad e).1, (g5 hy ad e).2.1, fun o => (hb.frozen (p := ⟨ad.block, o, none⟩) (g4.ltB hy ad e)).trans ((g5 hy ad e).2.2 o)⟩⟩
theorem MadeRs.lt (h : MadeRs w g E X k B) : g < w.heap.size := by obtain ⟨hs, h1, _⟩ := h; exact h1.lt
theorem MadeRs.cell (h : MadeRs w g E X k B) {i : Nat} (hi : i < X.length) : ∃ v, w.cell? ⟨g, i, none⟩ = some v := by
  obtain ⟨hs, h1, h2, _⟩ := h
  exact ⟨_, h1.cell_ (by omega)⟩
theorem MadeRs.frozen (h : MadeRs w g E X k B) (i : Nat) : w.frozen? ⟨g, i, none⟩ = false := by
  obtain ⟨hs, h1, _⟩ := h
  exact h1.frozen i
theorem SlR.far {w : World} {A : Option Addr} {x : RL.R} (h : SlR w.heap.size w A x) {p : Addr} (u : Value) (hne : x ≠ [] → ∀ ad, A = some ad → ad.block ≠ p.block) : SlR (w.setCell p u).heap.size (w.setCell p u) A x := by
  intro hn
  have hx : x ≠ [] := by intro e; subst e; exact hn rfl
  obtain ⟨b, o, e, hb, hc⟩ := h hn
  refine ⟨b, o, e, by simpa using hb, fun i u' hu => far_cell (q := ⟨b, o + i, none⟩) (fun e2 => hne hx _ e e2.symm) (hc i u' hu)⟩
theorem MadeRs.set (h : MadeRs w g E X k B) (hk : k < X.length) {A' : Option Addr} {C' : Nat} (hc : X[k].length ≤ C') (hm : C' ≤ 9223372036854775807) (hr : SlR w.heap.size w A' X[k]) (hne : X[k] ≠ [] → ∀ ad, A' = some ad → ad.block ≠ g ∧ B ≤ ad.block ∧ ∀ o, w.frozen? ⟨ad.block, o, none⟩ = false) :
    MadeRs (w.setCell ⟨g, k, none⟩ (.slice A' X[k].length C')) g E X (k + 1) B := by
  obtain ⟨hs, h1, h2, h3, h4⟩ := h
  refine ⟨hs.set k (.slice A' X[k].length C'), h1.set k _, by simpa using h2, h3, fun i hi hik => ?_⟩
  by_cases he : i = k
  · subst he
    exact ⟨A', C', by rw [List.getElem?_set_self (by omega)], hc, hm, hr.far _ (fun hy ad e => (hne hy ad e).1), fun hy ad e => ⟨(hne hy ad e).1, (hne hy ad e).2.1, fun o => by rw [World.frozen?_setCell]; exact (hne hy ad e).2.2 o⟩⟩
  · obtain ⟨A2, C2, g1, g2, g3, g4, g5⟩ := h4 i hi (by omega)
    exact ⟨A2, C2, by rw [List.getElem?_set_ne (fun e => he e.symm)]; exact g1, g2, g3, g4.far _ (fun hy ad e => (g5 hy ad e).1), fun hy ad e => ⟨(g5 hy ad e).1, (g5 hy ad e).2.1, fun o => by rw [World.frozen?_setCell]; exact (g5 hy ad e).2.2 o⟩⟩
theorem MadeRs.sl (h : MadeRs w g E X X.length B) : SlRs w.heap.size w (some ⟨g, 0, none⟩) X := fun _ => by
  obtain ⟨hs, h1, h2, h3, h4⟩ := h
  refine ⟨g, 0, rfl, h1.lt, fun i hi => ?_⟩
  obtain ⟨A', C', g1, g2, g3, g4, _⟩ := h4 i hi hi
  exact ⟨A', C', by rw [Nat.zero_add, h1.cell]; exact g1, g2, g3, g4⟩
end

theorem makeRows (n : Nat) (hn : n ≤ 1000000) (w : World) : (Instr.makeSlice 32 (.int .i64 (n : Int)) (.int .i64 (n : Int))).run Tryz.prog w = .ok (.slice (some ⟨w.heap.size, 0, none⟩) n n) (w.alloc (.cells (zerosA (.slice none 0 0) n) 69)) := by
  obtain ⟨i0, hi0, hz0, hz1, hz2⟩ := info_parts rowInfo
  have := run_make (P := Tryz.prog) w 32 69 i0 _ Tryz.underlying32 hi0 hz0 .i64 .i64 n n (by omega) (by omega) (by rw [hz2]; omega) (by omega)
  rw [this, hz1]
  simp only [Int.toNat_natCast]
  rw [zeros_made _ _ rfl]

theorem MadeRs.start (w : World) (E : TypeId) (X : List RL.R) : MadeRs (w.alloc (.cells (zerosA (.slice none 0 0) X.length) E)) w.heap.size E X 0 w.heap.size :=
  ⟨_, Row.zeros w E _ X.length, by simp, Nat.le_refl _, fun i _ h => absurd h (by omega)⟩

set_option maxHeartbeats 1000000 in
theorem rlRows_any (n : Int) (RA : Option Addr) (RC : Nat) (X : List RL.R) (w : World) (hX : SlRs w.heap.size w RA X) (hXo : RsOk X) (hl : X.length ≤ 1000000) :
    Calls Tryz.prog 26 #[.agg #[.int .i64 n, .slice RA X.length RC]] w fun e w' => ∃ g, e = .returned (.slice (some ⟨g, 0, none⟩) X.length X.length) ∧ MadeRs w' g 69 X X.length w.heap.size ∧ Below w.heap.size w w' := by
  have HX := Lib.hid hX
  have HXO := Lib.hid hXo
  have hmk := makeRows X.length hl
  clear hX hXo
  go_enter Tryz.func26, Tryz.ntmps26
  go_wp2
  clear hmk
  have HM0 := Lib.hid (MadeRs.start (w.alloc (.cells #[.int .i64 n, .slice RA X.length RC] 34)) 69 X)
  have c0 : ((w.alloc (.cells #[.int .i64 n, .slice RA X.length RC] 34)).alloc (.cells (zerosA (.slice none 0 0) X.length) 69)).cell? ⟨w.heap.size, 1, none⟩ = some (.slice RA X.length RC) := by go_simp
  have C0 := Lib.hid c0
  clear c0
  go_loopw [11] (fun i wr => ∃ k : Nat, k ≤ X.length ∧ i = .int .i64 k ∧ MadeRs wr (w.heap.size + 1) 69 X k (w.heap.size + 1) ∧ wr.cell? ⟨w.heap.size, 1, none⟩ = some (.slice RA X.length RC) ∧ Below w.heap.size w wr) (fun i _ => X.length - (intOf i).toNat)
  case atStart => exact ⟨0, Nat.zero_le _, rfl, by simpa using HM0.out, C0.out, ((Below.refl _ _).alloc (Nat.le_refl _) _).alloc (by simp) _⟩
  case round =>
    obtain ⟨k, hka, rfl, hM, hc0, hbel⟩ := hrel
    have HM := Lib.hid hM
    have HB := Lib.hid hbel
    have hlt := hM.lt
    clear hM HM0 C0
    by_cases h1 : k < X.length
    · obtain ⟨b, o, A1, C1, rfl, hb, c1, -, -, s1⟩ := slRs_at HX.out h1
      have d1 := (hbel.cell (p := ⟨b, o + k, none⟩) hb).trans c1
      have HC := Lib.hid (cloneRow_any A1 C1 X[k] wr ((s1.below hbel (Nat.le_refl _)).more hbel.size) (HXO.out.at_ h1).1)
      clear c1 s1 hbel
      have HXK := Lib.hid (show X[k] = X[k] from rfl)
      generalize hxl : X[k].length = xl at d1
      have HXL := Lib.hid hxl
      rw [hxl] at HC
      clear hxl
      go_wp2_with fail
      refine HC.out.mono ?_
      rintro e w1 ⟨v1, rfl, hown1, hb1⟩
      rw [← HXL.out] at hown1
      obtain ⟨-, A2, C2, rfl, hc2, hm2, hs2, hfr⟩ := SlR.of_own hown1
      have HM1 := Lib.hid (HM.out.keep hb1)
      obtain ⟨u, hu⟩ := HM1.out.cell h1
      have hfz := HM1.out.frozen k
      have hz1 := hb1.size
      have hc1 := (hb1.cell (p := ⟨w.heap.size, 1, none⟩) (show w.heap.size < wr.heap.size by omega)).trans hc0
      have HSET := Lib.hid (HM1.out.set h1 hc2 hm2 hs2 (fun _ ad e => ⟨by have := hfr ad e; omega, by have := hfr ad e; omega, own_frozen hown1 ad e⟩))
      have HB1 := Lib.hid ((Below.then HB.out hb1 (by omega)).setCell (p := ⟨w.heap.size + 1, k, none⟩) (show w.heap.size ≤ w.heap.size + 1 by omega) (.slice A2 X[k].length C2))
      rw [HXL.out] at HSET HB1 ⊢
      clear hown1 hb1 hs2 hfr d1 HC hc0
      go_wp2
      go_roundw
      case rel => exact ⟨k + 1, by omega, by go_num, HSET.out, far_cell (by simp) hc1, HB1.out⟩
      case measure => simp [intOf]; omega
    · obtain rfl : k = X.length := by omega
      go_wp2
      go_ret
      refine ⟨_, rfl, ?_, hbel⟩
      obtain ⟨hs, g1, g2, g3, g4⟩ := HM.out
      refine ⟨hs, g1, g2, by omega, fun i hi hk => ?_⟩
      obtain ⟨A', C', k1, k2, k3, k4, k5⟩ := g4 i hi hk
      exact ⟨A', C', k1, k2, k3, k4, fun hy ad e => ⟨(k5 hy ad e).1, by have := (k5 hy ad e).2.1; omega, (k5 hy ad e).2.2⟩⟩
end
end Go.Proofs.YthgaflmldbgbnaaGreatDoor

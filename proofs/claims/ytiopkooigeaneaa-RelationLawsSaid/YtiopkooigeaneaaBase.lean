/- Words for memory that all walks of this seat use: a slice that reads as a list of values, and what keeps it so. -/
import Derived.WalkKit
import Derived.WalkSpells
import Derived.WalkLawsBesides
import Derived.Deep.QuietTactic
import Derived.BigQuiet
import Derived.Lib.Hide
namespace Go.Proofs.Ytiopkooigeaneaa
open Go.RowKit

/-- The slice at address A reads as the values xs (nothing is asked of A where xs is empty); its cells lie below block number B. -/
def Sl (B : Nat) (w : World) (A : Option Addr) (xs : List Value) : Prop :=
  xs ≠ [] → ∃ b o, A = some ⟨b, o, none⟩ ∧ b < B ∧ ∀ i u, xs[i]? = some u → w.cell? ⟨b, o + i, none⟩ = some u

theorem Sl.nil {B : Nat} {w : World} {A : Option Addr} : Sl B w A [] := fun h => absurd rfl h

theorem Sl.keep {B : Nat} {w w' : World} {A : Option Addr} {xs : List Value} (h : Sl B w A xs) (hk : ∀ p : Addr, p.block < B → w'.cell? p = w.cell? p) : Sl B w' A xs := fun hn => by
  obtain ⟨b, o, e, hb, hc⟩ := h hn
  exact ⟨b, o, e, hb, fun i u hu => (hk _ hb).trans (hc i u hu)⟩

theorem Sl.more {B B' : Nat} {w : World} {A : Option Addr} {xs : List Value} (h : Sl B w A xs) (hB : B ≤ B') : Sl B' w A xs := fun hn => by
  obtain ⟨b, o, e, hb, hc⟩ := h hn
  exact ⟨b, o, e, by omega, hc⟩

theorem Sl.below {B C : Nat} {w w' : World} {A : Option Addr} {xs : List Value} (h : Sl B w A xs) (hb : Below C w w') (hC : B ≤ C) : Sl B w' A xs :=
  h.keep fun _ hp => hb.cell (by omega)

theorem Sl.alloc {B : Nat} {w : World} {A : Option Addr} {xs : List Value} (h : Sl B w A xs) (hB : B ≤ w.heap.size) (o : Obj) : Sl B (w.alloc o) A xs :=
  h.keep fun p hp => World.cell?_alloc_lt w o p (by omega)

theorem Sl.setCell {B : Nat} {w : World} {A : Option Addr} {xs : List Value} (h : Sl B w A xs) {p : Addr} (hB : B ≤ p.block) (u : Value) : Sl B (w.setCell p u) A xs :=
  h.keep fun q hq => World.cell?_setCell_other w p q u (fun e => by subst e; omega)

theorem Sl.drew {B : Nat} {w : World} {A : Option Addr} {xs : List Value} (h : Sl B w A xs) : Sl B w.drew A xs := h
theorem Sl.drewN {B : Nat} {w : World} {A : Option Addr} {xs : List Value} (h : Sl B w A xs) (k : Nat) : Sl B (w.drewN k) A xs := h

theorem Sl.at_ {B : Nat} {w : World} {A : Option Addr} {xs : List Value} (h : Sl B w A xs) {k : Nat} (hk : k < xs.length) :
    ∃ b o, A = some ⟨b, o, none⟩ ∧ b < B ∧ w.cell? ⟨b, o + k, none⟩ = some xs[k] := by
  obtain ⟨b, o, e, hb, hc⟩ := h (by intro h0; subst h0; simp at hk)
  exact ⟨b, o, e, hb, hc k _ (List.getElem?_eq_getElem hk)⟩

/-- A slice of integers of kind k. -/
abbrev SlI (k : IntKind) (B : Nat) (w : World) (A : Option Addr) (zs : List Int) : Prop := Sl B w A (zs.map (Value.int k))

theorem slI_at {k : IntKind} {B : Nat} {w : World} {A : Option Addr} {zs : List Int} (h : SlI k B w A zs) {i : Nat} (hi : i < zs.length) :
    ∃ b o, A = some ⟨b, o, none⟩ ∧ b < B ∧ w.cell? ⟨b, o + i, none⟩ = some (.int k zs[i]) := by
  obtain ⟨b, o, e, hb, hc⟩ := Sl.at_ h (k := i) (by simpa using hi)
  exact ⟨b, o, e, hb, by simpa using hc⟩

/-- A slice of unsigned integers of kind k, as natural numbers. -/
abbrev SlN (k : IntKind) (B : Nat) (w : World) (A : Option Addr) (zs : List Nat) : Prop := Sl B w A (zs.map fun z : Nat => Value.int k (z : Int))

theorem slN_at {k : IntKind} {B : Nat} {w : World} {A : Option Addr} {zs : List Nat} (h : SlN k B w A zs) {i : Nat} (hi : i < zs.length) :
    ∃ b o, A = some ⟨b, o, none⟩ ∧ b < B ∧ w.cell? ⟨b, o + i, none⟩ = some (.int k (zs[i] : Int)) := by
  obtain ⟨b, o, e, hb, hc⟩ := Sl.at_ h (k := i) (by simpa using hi)
  exact ⟨b, o, e, hb, by simpa using hc⟩

/-- Block g is just the cells xs, of element type e, none frozen. -/
def Row (w : World) (g : Nat) (e : TypeId) (xs : List Value) : Prop := w.heap[g]? = some (.cells xs.toArray e (0, 0))

section
variable {w w' : World} {g : Nat} {e : TypeId} {xs : List Value}
theorem Row.lt (h : Row w g e xs) : g < w.heap.size := by
  rcases Nat.lt_or_ge g w.heap.size with hlt | hge
  · exact hlt
  · unfold Row at h; rw [Array.getElem?_eq_none hge] at h; cases h
theorem Row.cell (h : Row w g e xs) (i : Nat) : w.cell? ⟨g, i, none⟩ = xs[i]? := by
  unfold Row at h
  simp [World.cell?, h]
theorem Row.cell_ (h : Row w g e xs) {i : Nat} (hi : i < xs.length) : w.cell? ⟨g, i, none⟩ = some xs[i] := by
  rw [h.cell, List.getElem?_eq_getElem hi]
theorem Row.frozen (h : Row w g e xs) (i : Nat) : w.frozen? ⟨g, i, none⟩ = false := by
  unfold Row at h
  simp [World.frozen?, h]
theorem Row.new (w : World) (e : TypeId) (xs : List Value) : Row (w.alloc (.cells xs.toArray e)) w.heap.size e xs := heap_alloc_new w _
theorem Row.alloc (h : Row w g e xs) (o : Obj) : Row (w.alloc o) g e xs := (Below.heap_alloc w o g h.lt).trans h
theorem Row.drew (h : Row w g e xs) : Row w.drew g e xs := h
theorem Row.drewN (h : Row w g e xs) (n : Nat) : Row (w.drewN n) g e xs := h
theorem Row.set (h : Row w g e xs) (i : Nat) (u : Value) : Row (w.setCell ⟨g, i, none⟩ u) g e (xs.set i u) := by
  unfold Row at h ⊢
  simp [World.setCell, Array.getElem?_modify, h]
theorem Row.far (h : Row w g e xs) {p : Addr} (hp : g ≠ p.block) (u : Value) : Row (w.setCell p u) g e xs := (Below.heap_setCell w p u g hp).trans h
theorem Row.below {B : Nat} (h : Row w g e xs) (hb : Below B w w') (hg : g < B) : Row w' g e xs := (hb.block g hg).trans h
theorem Row.grown {row : Option Nat} (h : Row w g e xs) (hb : w.grownBy w' row) (hg : some g ≠ row) : Row w' g e xs := (hb.block g h.lt hg).trans h
end

/-- n equal values, as a new array holds them. (A plain definition: the walk does not look into it.) -/
def zerosA (z : Value) (n : Nat) : Array Value := (List.replicate n z).toArray
theorem Row.zeros (w : World) (e : TypeId) (z : Value) (n : Nat) : Row (w.alloc (.cells (zerosA z n) e)) w.heap.size e (List.replicate n z) := heap_alloc_new w _
theorem zeros_made (z : Value) (n : Nat) (hz : z.cells = #[z]) : madeCells z.cells (n * 1) = zerosA z n := by
  rw [hz, Nat.mul_one]
  unfold madeCells zerosA
  apply Array.ext
  · simp
  · intro i h1 h2
    simp [Nat.mod_one]

theorem own_base {w : World} {base : Nat} {e : TypeId} {size : Nat} {v : Value} {n : Nat} {xs : List Value} (h : w.ownsRow base e size v n xs) {k : Nat} (hk : v.ownBlock = some k) : base ≤ k := by
  rcases h.2 with ⟨rfl, _⟩ | ⟨g, cap, cur, rfl, hg, _⟩
  · simp [Value.ownBlock] at hk
  · simp [Value.ownBlock] at hk; omega

theorem own_weaken {w : World} {base base' : Nat} {e : TypeId} {size : Nat} {v : Value} {n : Nat} {xs : List Value} (h : w.ownsRow base e size v n xs) (hb : base' ≤ base) : w.ownsRow base' e size v n xs := by
  refine ⟨h.1, ?_⟩
  rcases h.2 with h1 | ⟨g, cap, cur, h1, h2, h3⟩
  · exact .inl h1
  · exact .inr ⟨g, cap, cur, h1, by omega, h3⟩

theorem own_nil (w : World) (base : Nat) (e : TypeId) (size : Nat) : w.ownsRow base e size (.slice none 0 0) 0 [] := ⟨by simp, .inl ⟨rfl, rfl⟩⟩

theorem grown_cell {w w' : World} {row : Option Nat} (hg : w.grownBy w' row) {p : Addr} (hp : p.block < w.heap.size) (hne : some p.block ≠ row) : w'.cell? p = w.cell? p :=
  World.cell?_of_block (hg.block p.block hp hne)

/-- What an append onto a row from block B on leaves below B. -/
theorem app_kept {w w' : World} {v : Value} {B : Nat} {o : Obj} (hv : ∀ k, v.ownBlock = some k → B ≤ k) (hB : B ≤ w.heap.size) (hg : (w.alloc o).grownBy w' v.ownBlock) : Below B w w' :=
  ((Below.refl B w).alloc hB o).grown hg (by simp; omega) hv

theorem app_kept2 {w w' : World} {v : Value} {B : Nat} {o o2 : Obj} (hv : ∀ k, v.ownBlock = some k → B ≤ k) (hB : B ≤ w.heap.size) (hg : ((w.alloc o).alloc o2).grownBy w' v.ownBlock) : Below B w w' :=
  (((Below.refl B w).alloc hB o).alloc (by simp; omega) o2).grown hg (by simp; omega) hv

/-- The length in a slice's value: for a loop's measure. -/
def lenOf : Value → Nat | .slice _ n _ => n | _ => 0
theorem own_len {w : World} {base : Nat} {e : TypeId} {size : Nat} {v : Value} {n : Nat} {xs : List Value} (h : w.ownsRow base e size v n xs) : lenOf v = n := by
  rcases h.2 with ⟨rfl, h0⟩ | ⟨g, cap, cur, rfl, hg, _⟩
  · simp [lenOf, h0]
  · rfl

/-- A row of the call's own, as a slice that is read. -/
theorem Sl.of_own {w : World} {base : Nat} {e : TypeId} {v : Value} {n : Nat} {xs : List Value} (h : w.ownsRow base e 1 v n xs) :
    ∃ A c, v = .slice A xs.length c ∧ xs.length ≤ c ∧ n = xs.length ∧ Sl w.heap.size w A xs := by
  have hn : n = xs.length := by have := h.1; omega
  subst hn
  rcases h.2 with ⟨rfl, h0⟩ | ⟨g, cap, cur, rfl, hg, hh, hnc, _, hsz, ht⟩
  · refine ⟨none, 0, by rw [h0], by omega, rfl, ?_⟩
    rw [List.eq_nil_of_length_eq_zero h0]
    exact Sl.nil
  · refine ⟨_, cap, rfl, hnc, rfl, fun _ => ⟨g, 0, rfl, ?_, fun i u hu => ?_⟩⟩
    · rcases Nat.lt_or_ge g w.heap.size with hlt | hge
      · exact hlt
      · rw [Array.getElem?_eq_none hge] at hh; cases hh
    · have hi := (List.getElem?_eq_some_iff.1 hu).1
      rw [← ht, List.getElem?_take_of_lt (by omega)] at hu
      simp [World.cell?, hh]
      simpa using hu

theorem Below.undrew {B : Nat} {a b : World} (h : Below B a.drew b) : Below B a b := ⟨h.os, h.tape, h.output, h.size, h.block⟩
theorem Below.undrewN {B n : Nat} {a b : World} (h : Below B (a.drewN n) b) : Below B a b := ⟨h.os, h.tape, h.output, h.size, h.block⟩
/-- Below, through a box that the call laid first. -/
theorem Below.box {w w' : World} {o : Obj} {C : Nat} (hb : Below C (w.alloc o) w') (hC : w.heap.size ≤ C) : Below w.heap.size w w' :=
  ((Below.refl _ _).alloc (Nat.le_refl _) _).trans (hb.mono hC)
theorem Below.box2 {w w' : World} {o o2 : Obj} {C : Nat} (hb : Below C ((w.alloc o).alloc o2) w') (hC : w.heap.size ≤ C) : Below w.heap.size w w' :=
  (((Below.refl _ _).alloc (Nat.le_refl _) _).alloc (by simp) _).trans (hb.mono hC)
theorem Below.then {B C : Nat} {a b c : World} (h : Below B a b) (k : Below C b c) (hC : B ≤ C) : Below B a c := h.trans (k.mono hC)

/-- A row of the call's own of elements of several cells, as a slice that is read. -/
theorem Sl.of_own_n {w : World} {base size : Nat} {e : TypeId} {v : Value} {n : Nat} {xs : List Value} (h : w.ownsRow base e size v n xs) :
    ∃ A c, v = .slice A n c ∧ n ≤ c ∧ Sl w.heap.size w A xs := by
  rcases h.2 with ⟨rfl, h0⟩ | ⟨g, cap, cur, rfl, hg, hh, hnc, _, hsz, ht⟩
  · refine ⟨none, 0, by rw [h0], by omega, ?_⟩
    have hx : xs.length = 0 := by have := h.1; rw [h0] at this; simpa using this
    rw [List.eq_nil_of_length_eq_zero hx]
    exact Sl.nil
  · refine ⟨_, cap, rfl, hnc, fun _ => ⟨g, 0, rfl, ?_, fun i u hu => ?_⟩⟩
    · rcases Nat.lt_or_ge g w.heap.size with hlt | hge
      · exact hlt
      · rw [Array.getElem?_eq_none hge] at hh; cases hh
    · have hi := (List.getElem?_eq_some_iff.1 hu).1
      have hl : xs.length = n * size := h.1
      rw [← ht, List.getElem?_take_of_lt (by omega)] at hu
      simp [World.cell?, hh]
      simpa using hu

theorem own_sl {w : World} {base : Nat} {e : TypeId} {g n cap : Nat} {xs : List Value} (h : w.ownsRow base e 1 (.slice (some ⟨g, 0, none⟩) n cap) n xs) : Sl w.heap.size w (some ⟨g, 0, none⟩) xs := by
  obtain ⟨A, c, e, _, _, hs⟩ := Sl.of_own h
  injection e with e1 e2 e3
  subst e1
  exact hs
theorem Row.sl {w : World} {g : Nat} {e : TypeId} {xs : List Value} (h : Row w g e xs) : Sl w.heap.size w (some ⟨g, 0, none⟩) xs :=
  fun _ => ⟨g, 0, rfl, h.lt, fun i u hu => by rw [Nat.zero_add, h.cell]; exact hu⟩
/-- A row of the call's own is kept where nothing below C turns and it lies below C. -/
theorem own_below {w w' : World} {base C : Nat} {e : TypeId} {size : Nat} {v : Value} {n : Nat} {xs : List Value} (h : w.ownsRow base e size v n xs) (hb : Below C w w') (hC : ∀ k, v.ownBlock = some k → k < C) : w'.ownsRow base e size v n xs := by
  refine ⟨h.1, ?_⟩
  rcases h.2 with h1 | ⟨g, cap, cur, h1, h2, h3, h4⟩
  · exact .inl h1
  · refine .inr ⟨g, cap, cur, h1, h2, ?_, h4⟩
    rw [hb.block g (hC g (by rw [h1]; rfl))]
    exact h3
theorem own_lt {w : World} {base : Nat} {e : TypeId} {size : Nat} {v : Value} {n : Nat} {xs : List Value} (h : w.ownsRow base e size v n xs) : ∀ k, v.ownBlock = some k → k < w.heap.size := fun k hk => (h.lt k hk).2
theorem own_keep {w w' : World} {base : Nat} {e : TypeId} {size : Nat} {v : Value} {n : Nat} {xs : List Value} (h : w.ownsRow base e size v n xs) (hb : Below w.heap.size w w') : w'.ownsRow base e size v n xs := own_below h hb (own_lt h)
/-- A row of the call's own is kept by a store into another block. -/
theorem own_far {w : World} {base : Nat} {e : TypeId} {size : Nat} {v : Value} {n : Nat} {xs : List Value} (h : w.ownsRow base e size v n xs) {p : Addr} (hp : v.ownBlock ≠ some p.block) (u : Value) : (w.setCell p u).ownsRow base e size v n xs := by
  refine ⟨h.1, ?_⟩
  rcases h.2 with h1 | ⟨g, cap, cur, h1, h2, h3, h4⟩
  · exact .inl h1
  · refine .inr ⟨g, cap, cur, h1, h2, ?_, h4⟩
    rw [Below.heap_setCell _ _ _ _ (fun e => hp (by rw [h1, ← e]; rfl))]
    exact h3

theorem far_cell {w : World} {p q : Addr} {u : Value} {v : Option Value} (hne : p.block ≠ q.block) (h : w.cell? q = v) : (w.setCell p u).cell? q = v :=
  (World.cell?_setCell_other w p q u (fun e => hne (by rw [e]))).trans h
theorem old_cell (w : World) (o : Obj) {p : Addr} {v : Option Value} (hp : p.block < w.heap.size) (h : w.cell? p = v) : (w.alloc o).cell? p = v := (World.cell?_alloc_lt w o p hp).trans h
theorem old_frozen (w : World) (o : Obj) {p : Addr} {v : Bool} (hp : p.block < w.heap.size) (h : w.frozen? p = v) : (w.alloc o).frozen? p = v :=
  (((Below.refl w.heap.size w).alloc (Nat.le_refl _) o).frozen hp).trans h
theorem new_cell (w : World) (xs : List Value) (e : TypeId) {i : Nat} (hi : i < xs.length) : (w.alloc (.cells xs.toArray e)).cell? ⟨w.heap.size, i, none⟩ = some xs[i] := (Row.new w e xs).cell_ hi

theorem ret_int {k : IntKind} {a b : Int} (h : a = b) : Ending.returned (.int k a) = .returned (.int k b) := by rw [h]
theorem ret_bool {a b : Bool} (h : a = b) : Ending.returned (.bool a) = .returned (.bool b) := by rw [h]
theorem Below.drewN' {B : Nat} {a w : World} (h : Below B a w) (n : Nat) : Below B a (w.drewN n) := ⟨h.os, h.tape, h.output, h.size, h.block⟩

/-- All numbers of a list fit the kind int. -/
def I64s (zs : List Int) : Prop := ∀ z ∈ zs, -9223372036854775808 ≤ z ∧ z ≤ 9223372036854775807
/-- All numbers of a list fit the kind uint32. -/
def U32s (zs : List Nat) : Prop := ∀ z ∈ zs, z ≤ 4294967295

end Go.Proofs.Ytiopkooigeaneaa

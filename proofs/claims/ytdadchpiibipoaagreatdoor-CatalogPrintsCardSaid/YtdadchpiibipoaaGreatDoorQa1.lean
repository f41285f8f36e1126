/- Parts of the proof, merged: RPlain, C1, Base, E0, Shelf, V1, V3, E1, RSort, V4, E2, V5, V7, V8, ShelfSort, E3. -/
import Derived.Lib.Bytealg
import Derived.Lib.ItoaNum
import Derived.Lib.ParseIntB
import Derived.Lib.Strings
import Derived.WalkKit
import Derived.WalkSpells
import Derived.WalkLawsBesides
import Derived.Deep.QuietTactic
import Derived.BigQuiet
import Derived.Lib.Hide
import Derived.Sort.Grow
import Derived.Shelf.Small.Strs
import Derived.Shelf.Small.Wraps
import Derived.Shelf.SlicesE.Clone
import Derived.Shelf.SlSorted.Search
import Derived.Shelf.SlCmpFuncs.IsSortedFunc
import Derived.Shelf.SlCmpFuncs.None
import Derived.Test.YtdadchpiibipoaaGreatDoorProg
import Derived.StillTailTactics
import Derived.Outline
import Derived.Deep.RegionHeld3
import Derived.Deep.AppendLies
import Derived.Shelf.SlSortCmp.Whole1
import Derived.Lib.SlKept

set_option maxRecDepth 100000
namespace Go.Proofs.YtdadchpiibipoaaGreatDoor
end Go.Proofs.YtdadchpiibipoaaGreatDoor
section
namespace Go.Proofs.YtdadchpiibipoaaGreatDoor.RL

structure Tot {α : Type} (c : α → α → Int) : Prop where
  z : ∀ a b, c a b = 0 ↔ a = b
  sw : ∀ a b, c b a = - c a b
  tr : ∀ a b d, c a b < 0 → c b d < 0 → c a d < 0
  rg : ∀ a b, c a b = -1 ∨ c a b = 0 ∨ c a b = 1

section
variable {α : Type} {c : α → α → Int} (T : Tot c)
include T
theorem Tot.self (a : α) : c a a = 0 := (T.z a a).2 rfl
theorem Tot.le_trans {a b d : α} (h1 : c a b ≤ 0) (h2 : c b d ≤ 0) : c a d ≤ 0 := by
  rcases Int.lt_or_eq_of_le h1 with h1 | h1
  · rcases Int.lt_or_eq_of_le h2 with h2 | h2
    · exact Int.le_of_lt (T.tr _ _ _ h1 h2)
    · rw [(T.z _ _).1 h2] at h1; exact Int.le_of_lt h1
  · rw [(T.z _ _).1 h1]; exact h2
theorem Tot.lt_of_le_of_lt {a b d : α} (h1 : c a b ≤ 0) (h2 : c b d < 0) : c a d < 0 := by
  rcases Int.lt_or_eq_of_le h1 with h1 | h1
  · exact T.tr _ _ _ h1 h2
  · rw [(T.z _ _).1 h1]; exact h2
end

def cmpI (a b : Int) : Int := if a < b then -1 else if b < a then 1 else 0
theorem tot_cmpI : Tot cmpI where
  z a b := by unfold cmpI; split <;> (try split) <;> omega
  sw a b := by unfold cmpI; split <;> split <;> (try split) <;> omega
  tr a b d := by unfold cmpI; split <;> split <;> (try split) <;> (try split) <;> omega
  rg a b := by unfold cmpI; split <;> (try split) <;> omega

def cmpL {α : Type} (c : α → α → Int) : List α → List α → Int
  | [], [] => 0
  | [], _ :: _ => -1
  | _ :: _, [] => 1
  | a :: x, b :: y => if c a b = 0 then cmpL c x y else c a b

theorem tot_cmpL {α : Type} {c : α → α → Int} (T : Tot c) : Tot (cmpL c) where
  z := by
    intro x
    induction x with
    | nil => intro y; cases y <;> simp [cmpL]
    | cons a x ih =>
      intro y
      cases y with
      | nil => simp [cmpL]
      | cons b y =>
        simp only [cmpL]
        split
        · rename_i h; rw [ih, (T.z a b).1 h]; simp
        · rename_i h; rw [T.z] at h; simp [T.z, h]
  sw := by
    intro x
    induction x with
    | nil => intro y; cases y <;> simp [cmpL]
    | cons a x ih =>
      intro y
      cases y with
      | nil => simp [cmpL]
      | cons b y =>
        simp only [cmpL, T.sw a b]
        by_cases h : c a b = 0
        · rw [if_pos (by omega), if_pos h, ih]
        · rw [if_neg (by omega), if_neg h]
  tr := by
    intro x
    induction x with
    | nil => intro y d; cases y <;> cases d <;> simp [cmpL]
    | cons a x ih =>
      intro y d
      cases y with
      | nil => cases d <;> simp [cmpL]
      | cons b y =>
        cases d with
        | nil => simp [cmpL]
        | cons e d =>
          simp only [cmpL]
          intro h1 h2
          by_cases h : c a b = 0
          · rw [if_pos h] at h1
            rw [(T.z _ _).1 h]
            by_cases h' : c b e = 0
            · rw [if_pos h'] at h2 ⊢; exact ih y d h1 h2
            · rw [if_neg h'] at h2 ⊢; exact h2
          · rw [if_neg h] at h1
            by_cases h' : c b e = 0
            · rw [← (T.z _ _).1 h', if_neg h]; exact h1
            · rw [if_neg h'] at h2
              have := T.tr _ _ _ h1 h2
              rw [if_neg (by omega)]; exact this
  rg := by
    intro x
    induction x with
    | nil => intro y; cases y <;> simp [cmpL]
    | cons a x ih =>
      intro y
      cases y with
      | nil => simp [cmpL]
      | cons b y =>
        simp only [cmpL]
        split
        · exact ih y
        · exact T.rg a b

def cmpB (a b : UInt8) : Int := if a < b then -1 else if b < a then 1 else 0
theorem tot_cmpB : Tot cmpB where
  z a b := by unfold cmpB; simp only [UInt8.lt_iff_toNat_lt, ← UInt8.toNat_inj]; split <;> (try split) <;> omega
  sw a b := by unfold cmpB; simp only [UInt8.lt_iff_toNat_lt]; split <;> split <;> (try split) <;> omega
  tr a b d := by unfold cmpB; simp only [UInt8.lt_iff_toNat_lt]; split <;> split <;> (try split) <;> (try split) <;> omega
  rg a b := by unfold cmpB; split <;> (try split) <;> omega
theorem compareBytes_eq : ∀ x y : List UInt8, Lib.compareBytes x y = cmpL cmpB x y
  | [], [] => rfl
  | [], _ :: _ => rfl
  | _ :: _, [] => rfl
  | a :: x, b :: y => by
    simp only [Lib.compareBytes, cmpL, cmpB, compareBytes_eq x y]
    split
    · simp
    · split <;> simp

structure V where
  kind : Int
  int : Int
  str : ByteArray

theorem V.ext_iff {a b : V} : a = b ↔ a.kind = b.kind ∧ a.int = b.int ∧ a.str = b.str := by
  cases a; cases b; simp
instance : DecidableEq V := fun a b => decidable_of_iff (a.kind = b.kind ∧ a.int = b.int ∧ a.str = b.str) V.ext_iff.symm
instance : Inhabited V := ⟨⟨0, 0, ByteArray.empty⟩⟩

def cmpS (a b : ByteArray) : Int := Lib.compareBytes a.data.toList b.data.toList
theorem str_ext {a b : ByteArray} (h : a.data.toList = b.data.toList) : a = b := by
  cases a with | mk a => cases b with | mk b => simp at h; simp [h]
theorem tot_cmpS : Tot cmpS := by
  have T := tot_cmpL tot_cmpB
  refine ⟨fun a b => ?_, fun a b => ?_, fun a b d => ?_, fun a b => ?_⟩ <;> unfold cmpS <;> simp only [compareBytes_eq]
  · rw [T.z]; exact ⟨str_ext, fun h => by rw [h]⟩
  · exact T.sw _ _
  · exact T.tr _ _ _
  · exact T.rg _ _

def then2 (x y : Int) : Int := if x = 0 then y else x
theorem tot_pair {α β : Type} {c : α → α → Int} {d : β → β → Int} (T : Tot c) (U : Tot d) : Tot (fun p q : α × β => then2 (c p.1 q.1) (d p.2 q.2)) where
  z p q := by
    obtain ⟨a, b⟩ := p
    obtain ⟨a', b'⟩ := q
    simp only [then2, Prod.mk.injEq]
    split
    · rename_i h; rw [U.z, (T.z _ _).1 h]; simp
    · rename_i h; constructor
      · intro e; exact absurd e h
      · intro e; exact absurd ((T.z _ _).2 e.1) h
  sw p q := by
    simp only [then2, T.sw p.1 q.1, U.sw p.2 q.2]
    by_cases h : c p.1 q.1 = 0
    · rw [if_pos (by omega), if_pos h]
    · rw [if_neg (by omega), if_neg h]
  tr p q r := by
    simp only [then2]
    intro h1 h2
    by_cases h : c p.1 q.1 = 0
    · rw [if_pos h] at h1
      rw [(T.z _ _).1 h]
      by_cases h' : c q.1 r.1 = 0
      · rw [if_pos h'] at h2 ⊢; exact U.tr _ _ _ h1 h2
      · rw [if_neg h'] at h2 ⊢; exact h2
    · rw [if_neg h] at h1
      by_cases h' : c q.1 r.1 = 0
      · rw [← (T.z _ _).1 h', if_neg h]; exact h1
      · rw [if_neg h'] at h2
        have := T.tr _ _ _ h1 h2
        rw [if_neg (by omega)]; exact this
  rg p q := by
    simp only [then2]
    split
    · exact U.rg _ _
    · exact T.rg _ _

def cmpV (a b : V) : Int := then2 (cmpI a.kind b.kind) (then2 (cmpI a.int b.int) (cmpS a.str b.str))
theorem tot_cmpV : Tot cmpV := by
  have T := tot_pair tot_cmpI (tot_pair tot_cmpI tot_cmpS)
  refine ⟨fun a b => ?_, fun a b => ?_, fun a b d => ?_, fun a b => ?_⟩
  · have h := T.z (a.kind, a.int, a.str) (b.kind, b.int, b.str)
    simp only [Prod.mk.injEq] at h
    rw [V.ext_iff]
    exact h
  · exact T.sw (a.kind, a.int, a.str) (b.kind, b.int, b.str)
  · exact T.tr (a.kind, a.int, a.str) (b.kind, b.int, b.str) (d.kind, d.int, d.str)
  · exact T.rg (a.kind, a.int, a.str) (b.kind, b.int, b.str)
theorem cmpV_kind {a b : V} (h : a.kind ≠ b.kind) : cmpV a b = cmpI a.kind b.kind := by
  unfold cmpV then2
  rw [if_neg (fun e => h ((tot_cmpI.z _ _).1 e))]
theorem cmpV_int {a b : V} (h : a.kind = b.kind) (h2 : a.int ≠ b.int) : cmpV a b = cmpI a.int b.int := by
  unfold cmpV then2
  rw [if_pos ((tot_cmpI.z _ _).2 h), if_neg (fun e => h2 ((tot_cmpI.z _ _).1 e))]
theorem cmpV_str {a b : V} (h : a.kind = b.kind) (h2 : a.int = b.int) : cmpV a b = cmpS a.str b.str := by
  unfold cmpV then2
  rw [if_pos ((tot_cmpI.z _ _).2 h), if_pos ((tot_cmpI.z _ _).2 h2)]

def validV (v : V) : Bool := (decide (v.kind = 1) && decide (v.str.size = 0)) || (decide (v.kind = 2) && decide (v.int = 0) && decide (v.str.size ≤ 24))

abbrev R := List V
def cmpR (x y : R) : Int := cmpL cmpV x y
theorem tot_cmpR : Tot cmpR := tot_cmpL tot_cmpV

theorem cmpR_nil (y : R) : cmpR [] y = if y = [] then 0 else -1 := by cases y <;> simp [cmpR, cmpL]

end Go.Proofs.YtdadchpiibipoaaGreatDoor.RL
end
namespace Go.Proofs.YtdadchpiibipoaaGreatDoor
section
def toB (l : List UInt8) : ByteArray := ⟨l.toArray⟩
def hexS : List UInt8 := [48, 49, 50, 51, 52, 53, 54, 55, 56, 57, 97, 98, 99, 100, 101, 102]
def hexD (n : Nat) : UInt8 := hexS.getD n 48
def escB (c : UInt8) : List UInt8 :=
  if c = 34 ∨ c = 92 then [92, c] else if c = 10 then [92, 110] else if c = 9 then [92, 116]
  else if 32 ≤ c.toNat ∧ c.toNat ≤ 126 then [c] else [92, 120, hexD (c.toNat / 16), hexD (c.toNat % 16)]
def escL (l : List UInt8) : List UInt8 := l.flatMap escB
def quoteL (l : List UInt8) : List UInt8 := 34 :: (escL l ++ [34])
def textV (v : RL.V) : List UInt8 := if RL.validV v = true then (if v.kind = 1 then Lib.itoa v.int else quoteL v.str.data.toList) else []
def commaV : List RL.V → List UInt8
  | [] => []
  | v :: t => textV v ++ t.flatMap fun u => 44 :: 32 :: textV u
def textR (x : RL.R) : List UInt8 := 40 :: (commaV x ++ [41])
theorem commaV_snoc (x : List RL.V) (v : RL.V) : commaV (x ++ [v]) = commaV x ++ ((if x = [] then [] else [44, 32]) ++ textV v) := by
  cases x with
  | nil => simp [commaV]
  | cons u t => simp [commaV, List.flatMap_append]
theorem escL_snoc (l : List UInt8) (c : UInt8) : escL (l ++ [c]) = escL l ++ escB c := by simp [escL]
theorem escB_len (c : UInt8) : (escB c).length ≤ 4 := by
  unfold escB
  split
  · simp
  · split
    · simp
    · split
      · simp
      · split <;> simp
theorem escL_len (l : List UInt8) : (escL l).length ≤ 4 * l.length := by
  induction l with
  | nil => decide
  | cons c t ih =>
    have := escB_len c
    simp only [escL, List.flatMap_cons, List.length_append, List.length_cons] at *
    omega

def unhexL (l : List UInt8) : Nat × Nat :=
  if l.length < 4 then (0, 0) else
  if Lib.indexByte hexS (l.getD 2 0) < 0 ∨ Lib.indexByte hexS (l.getD 3 0) < 0 then (0, 0) else
  let c := (Lib.indexByte hexS (l.getD 2 0)).toNat * 16 + (Lib.indexByte hexS (l.getD 3 0)).toNat
  if c = 10 ∨ c = 9 ∨ (32 ≤ c ∧ c ≤ 126) then (0, 0) else (c, 4)
def unquoteL (l : List UInt8) : Nat × Nat :=
  match l with
  | [] => (0, 0)
  | c :: t =>
    if c ≠ 92 then (if c.toNat < 32 ∨ 126 < c.toNat then (0, 0) else (c.toNat, 1)) else
    match t with
    | [] => (0, 0)
    | d :: _ => if d = 34 ∨ d = 92 then (d.toNat, 2) else if d = 110 then (10, 2) else if d = 116 then (9, 2) else if d = 120 then unhexL l else (0, 0)
def strGo : Nat → List UInt8 → List UInt8 → Option (List UInt8)
  | 0, _, _ => none
  | f + 1, l, out =>
    match l with
    | [] => none
    | c :: t => if c = 34 then (if t = [] then some out else none) else
      if (unquoteL l).2 = 0 then none else strGo f (l.drop (unquoteL l).2) (out ++ [UInt8.ofNat (unquoteL l).1])
def isDig (c : UInt8) : Bool := decide (48 ≤ c.toNat) && decide (c.toNat ≤ 57)
def okInt : Lib.NumEnd Int → Option Int
  | .ok v => some v
  | _ => none
def intP (s : List UInt8) : Option Int :=
  if (Lib.trimPrefix s [45]) = [] ∨ ((Lib.trimPrefix s [45]).getD 0 0 = 48 ∧ s ≠ [48]) then none else
  if (Lib.trimPrefix s [45]).all isDig = false then none else
  okInt (Lib.parseIntB 64 s)
def strEnd : Option (List UInt8) → Option (List UInt8)
  | some out => if out.length ≤ 24 then some out else none
  | none => none
def strP (s : List UInt8) : Option (List UInt8) := strEnd (strGo (s.length + 1) (s.drop 1) [])
def parseV (s : List UInt8) : Option RL.V :=
  if s = [] then none else
  if s.getD 0 0 = 34 then (strP s).map fun o => ⟨2, 0, ⟨o.toArray⟩⟩ else (intP s).map fun n => ⟨1, n, ⟨#[]⟩⟩
def litQ : List UInt8 → Nat
  | [] => 0
  | [c] => if c = 34 then 0 else if c = 92 then 2 else 1
  | c :: d :: t => if c = 34 then 0 else if c = 92 then 2 + litQ t else 1 + litQ (d :: t)
def litL (s : List UInt8) : Nat :=
  if s.head? = some 34 then min (1 + litQ (s.drop 1) + 1) s.length else if 0 ≤ Lib.indexByte s 44 then (Lib.indexByte s 44).toNat else s.length
def rowGo : Nat → List UInt8 → RL.R → Option RL.R
  | 0, _, _ => none
  | f + 1, rest, out =>
    match parseV (rest.take (litL rest)) with
    | none => none
    | some v =>
      if rest.drop (litL rest) = [] then some (out ++ [v]) else
      if Lib.hasPrefix (rest.drop (litL rest)) [44, 32] then rowGo f ((rest.drop (litL rest)).drop 2) (out ++ [v]) else none
def parseR (s : List UInt8) : Option RL.R :=
  if s = [40, 41] then some [] else
  if s.length < 2 ∨ s.getD 0 0 ≠ 40 ∨ s.getD (s.length - 1) 0 ≠ 41 then none else rowGo (s.length + 1) ((s.drop 1).take (s.length - 2)) []
end
section
open Go.RowKit

def Sl (B : Nat) (w : World) (A : Option Addr) (xs : List Value) : Prop :=
  xs ≠ [] → ∃ b o, A = some ⟨b, o, none⟩ ∧ b < B ∧ ∀ i u, xs[i]? = some u → w.cell? ⟨b, o + i, none⟩ = some u

theorem Sl.nil {B : Nat} {w : World} {A : Option Addr} : Sl B w A [] := fun h => absurd rfl h

theorem Sl.keep {B : Nat} {w w' : World} {A : Option Addr} {xs : List Value} (h : Sl B w A xs) (hk : ∀ p : Addr, p.block < B → w'.cell? p = w.cell? p) : Sl B w' A xs := fun hn => by
  obtain ⟨b, o, e, hb, hc⟩ := h hn
  exact ⟨b, o, e, hb, fun i u hu => (hk _ hb).trans (hc i u hu)⟩

theorem Sl.more {B B' : Nat} {w : World} {A : Option Addr} {xs : List Value} (h : Sl B w A xs) (hB : B ≤ B') : Sl B' w A xs := fun hn => by
  obtain ⟨b, o, e, hb, hc⟩ := h hn
  exact ⟨b, o, e, by omega, hc⟩

theorem Sl.below {B C : Nat} {w w' : World} {A : Option Addr} {xs : List Value} (h : Sl B w A xs) (hb : Below C w w') (hC : B ≤ C) : Sl B w' A xs :=
  h.keep fun _ hp => hb.cell (by omega)

theorem Sl.alloc {B : Nat} {w : World} {A : Option Addr} {xs : List Value} (h : Sl B w A xs) (hB : B ≤ w.heap.size) (o : Obj) : Sl B (w.alloc o) A xs :=
  h.keep fun p hp => World.cell?_alloc_lt w o p (by omega)

theorem Sl.at_ {B : Nat} {w : World} {A : Option Addr} {xs : List Value} (h : Sl B w A xs) {k : Nat} (hk : k < xs.length) :
    ∃ b o, A = some ⟨b, o, none⟩ ∧ b < B ∧ w.cell? ⟨b, o + k, none⟩ = some xs[k] := by
  obtain ⟨b, o, e, hb, hc⟩ := h (by intro h0; subst h0; simp at hk)
  exact ⟨b, o, e, hb, hc k _ (List.getElem?_eq_getElem hk)⟩

abbrev SlI (k : IntKind) (B : Nat) (w : World) (A : Option Addr) (zs : List Int) : Prop := Sl B w A (zs.map (Value.int k))

theorem slI_at {k : IntKind} {B : Nat} {w : World} {A : Option Addr} {zs : List Int} (h : SlI k B w A zs) {i : Nat} (hi : i < zs.length) :
    ∃ b o, A = some ⟨b, o, none⟩ ∧ b < B ∧ w.cell? ⟨b, o + i, none⟩ = some (.int k zs[i]) := by
  obtain ⟨b, o, e, hb, hc⟩ := Sl.at_ h (k := i) (by simpa using hi)
  exact ⟨b, o, e, hb, by simpa using hc⟩

def Row (w : World) (g : Nat) (e : TypeId) (xs : List Value) : Prop := w.heap[g]? = some (.cells xs.toArray e (0, 0))

section
variable {w w' : World} {g : Nat} {e : TypeId} {xs : List Value}
theorem Row.lt (h : Row w g e xs) : g < w.heap.size := by
  rcases Nat.lt_or_ge g w.heap.size with hlt | hge
  · exact hlt
  · unfold Row at h; rw [Array.getElem?_eq_none hge] at h; cases h
theorem Row.cell (h : Row w g e xs) (i : Nat) : w.cell? ⟨g, i, none⟩ = xs[i]? := by
  unfold Row at h
  simp [World.cell?, h]
theorem Row.cell_ (h : Row w g e xs) {i : Nat} (hi : i < xs.length) : w.cell? ⟨g, i, none⟩ = some xs[i] := by
  rw [h.cell, List.getElem?_eq_getElem hi]
theorem Row.frozen (h : Row w g e xs) (i : Nat) : w.frozen? ⟨g, i, none⟩ = false := by
  unfold Row at h
  simp [World.frozen?, h]
theorem Row.new (w : World) (e : TypeId) (xs : List Value) : Row (w.alloc (.cells xs.toArray e)) w.heap.size e xs := heap_alloc_new w _
theorem Row.alloc (h : Row w g e xs) (o : Obj) : Row (w.alloc o) g e xs := (Below.heap_alloc w o g h.lt).trans h
theorem Row.drew (h : Row w g e xs) : Row w.drew g e xs := h
theorem Row.set (h : Row w g e xs) (i : Nat) (u : Value) : Row (w.setCell ⟨g, i, none⟩ u) g e (xs.set i u) := by
  unfold Row at h ⊢
  simp [World.setCell, Array.getElem?_modify, h]
theorem Row.far (h : Row w g e xs) {p : Addr} (hp : g ≠ p.block) (u : Value) : Row (w.setCell p u) g e xs := (Below.heap_setCell w p u g hp).trans h
theorem Row.below {B : Nat} (h : Row w g e xs) (hb : Below B w w') (hg : g < B) : Row w' g e xs := (hb.block g hg).trans h
theorem Row.grown {row : Option Nat} (h : Row w g e xs) (hb : w.grownBy w' row) (hg : some g ≠ row) : Row w' g e xs := (hb.block g h.lt hg).trans h
end

def zerosA (z : Value) (n : Nat) : Array Value := (List.replicate n z).toArray
theorem Row.zeros (w : World) (e : TypeId) (z : Value) (n : Nat) : Row (w.alloc (.cells (zerosA z n) e)) w.heap.size e (List.replicate n z) := heap_alloc_new w _
theorem zeros_made (z : Value) (n : Nat) (hz : z.cells = #[z]) : madeCells z.cells (n * 1) = zerosA z n := by
  rw [hz, Nat.mul_one]
  unfold madeCells zerosA
  apply Array.ext
  · simp
  · intro i h1 h2
    simp [Nat.mod_one]

theorem own_base {w : World} {base : Nat} {e : TypeId} {size : Nat} {v : Value} {n : Nat} {xs : List Value} (h : w.ownsRow base e size v n xs) {k : Nat} (hk : v.ownBlock = some k) : base ≤ k := by
  rcases h.2 with ⟨rfl, _⟩ | ⟨g, cap, cur, rfl, hg, _⟩
  · simp [Value.ownBlock] at hk
  · simp [Value.ownBlock] at hk; omega

theorem own_weaken {w : World} {base base' : Nat} {e : TypeId} {size : Nat} {v : Value} {n : Nat} {xs : List Value} (h : w.ownsRow base e size v n xs) (hb : base' ≤ base) : w.ownsRow base' e size v n xs := by
  refine ⟨h.1, ?_⟩
  rcases h.2 with h1 | ⟨g, cap, cur, h1, h2, h3⟩
  · exact .inl h1
  · exact .inr ⟨g, cap, cur, h1, by omega, h3⟩

theorem own_nil (w : World) (base : Nat) (e : TypeId) (size : Nat) : w.ownsRow base e size (.slice none 0 0) 0 [] := ⟨by simp, .inl ⟨rfl, rfl⟩⟩

theorem grown_cell {w w' : World} {row : Option Nat} (hg : w.grownBy w' row) {p : Addr} (hp : p.block < w.heap.size) (hne : some p.block ≠ row) : w'.cell? p = w.cell? p :=
  World.cell?_of_block (hg.block p.block hp hne)

def lenOf : Value → Nat | .slice _ n _ => n | _ => 0
theorem Sl.of_own {w : World} {base : Nat} {e : TypeId} {v : Value} {n : Nat} {xs : List Value} (h : w.ownsRow base e 1 v n xs) :
    ∃ A c, v = .slice A xs.length c ∧ xs.length ≤ c ∧ n = xs.length ∧ Sl w.heap.size w A xs := by
  have hn : n = xs.length := by have := h.1; omega
  subst hn
  rcases h.2 with ⟨rfl, h0⟩ | ⟨g, cap, cur, rfl, hg, hh, hnc, _, hsz, ht⟩
  · refine ⟨none, 0, by rw [h0], by omega, rfl, ?_⟩
    rw [List.eq_nil_of_length_eq_zero h0]
    exact Sl.nil
  · refine ⟨_, cap, rfl, hnc, rfl, fun _ => ⟨g, 0, rfl, ?_, fun i u hu => ?_⟩⟩
    · rcases Nat.lt_or_ge g w.heap.size with hlt | hge
      · exact hlt
      · rw [Array.getElem?_eq_none hge] at hh; cases hh
    · have hi := (List.getElem?_eq_some_iff.1 hu).1
      rw [← ht, List.getElem?_take_of_lt (by omega)] at hu
      simp [World.cell?, hh]
      simpa using hu

theorem Below.undrew {B : Nat} {a b : World} (h : Below B a.drew b) : Below B a b := ⟨h.os, h.tape, h.output, h.size, h.block⟩
theorem Below.box {w w' : World} {o : Obj} {C : Nat} (hb : Below C (w.alloc o) w') (hC : w.heap.size ≤ C) : Below w.heap.size w w' :=
  ((Below.refl _ _).alloc (Nat.le_refl _) _).trans (hb.mono hC)
theorem Below.then {B C : Nat} {a b c : World} (h : Below B a b) (k : Below C b c) (hC : B ≤ C) : Below B a c := h.trans (k.mono hC)

theorem Sl.of_own_n {w : World} {base size : Nat} {e : TypeId} {v : Value} {n : Nat} {xs : List Value} (h : w.ownsRow base e size v n xs) :
    ∃ A c, v = .slice A n c ∧ n ≤ c ∧ Sl w.heap.size w A xs := by
  rcases h.2 with ⟨rfl, h0⟩ | ⟨g, cap, cur, rfl, hg, hh, hnc, _, hsz, ht⟩
  · refine ⟨none, 0, by rw [h0], by omega, ?_⟩
    have hx : xs.length = 0 := by have := h.1; rw [h0] at this; simpa using this
    rw [List.eq_nil_of_length_eq_zero hx]
    exact Sl.nil
  · refine ⟨_, cap, rfl, hnc, fun _ => ⟨g, 0, rfl, ?_, fun i u hu => ?_⟩⟩
    · rcases Nat.lt_or_ge g w.heap.size with hlt | hge
      · exact hlt
      · rw [Array.getElem?_eq_none hge] at hh; cases hh
    · have hi := (List.getElem?_eq_some_iff.1 hu).1
      have hl : xs.length = n * size := h.1
      rw [← ht, List.getElem?_take_of_lt (by omega)] at hu
      simp [World.cell?, hh]
      simpa using hu

theorem Row.sl {w : World} {g : Nat} {e : TypeId} {xs : List Value} (h : Row w g e xs) : Sl w.heap.size w (some ⟨g, 0, none⟩) xs :=
  fun _ => ⟨g, 0, rfl, h.lt, fun i u hu => by rw [Nat.zero_add, h.cell]; exact hu⟩
theorem own_below {w w' : World} {base C : Nat} {e : TypeId} {size : Nat} {v : Value} {n : Nat} {xs : List Value} (h : w.ownsRow base e size v n xs) (hb : Below C w w') (hC : ∀ k, v.ownBlock = some k → k < C) : w'.ownsRow base e size v n xs := by
  refine ⟨h.1, ?_⟩
  rcases h.2 with h1 | ⟨g, cap, cur, h1, h2, h3, h4⟩
  · exact .inl h1
  · refine .inr ⟨g, cap, cur, h1, h2, ?_, h4⟩
    rw [hb.block g (hC g (by rw [h1]; rfl))]
    exact h3
theorem own_lt {w : World} {base : Nat} {e : TypeId} {size : Nat} {v : Value} {n : Nat} {xs : List Value} (h : w.ownsRow base e size v n xs) : ∀ k, v.ownBlock = some k → k < w.heap.size := fun k hk => (h.lt k hk).2
theorem own_keep {w w' : World} {base : Nat} {e : TypeId} {size : Nat} {v : Value} {n : Nat} {xs : List Value} (h : w.ownsRow base e size v n xs) (hb : Below w.heap.size w w') : w'.ownsRow base e size v n xs := own_below h hb (own_lt h)
theorem own_far {w : World} {base : Nat} {e : TypeId} {size : Nat} {v : Value} {n : Nat} {xs : List Value} (h : w.ownsRow base e size v n xs) {p : Addr} (hp : v.ownBlock ≠ some p.block) (u : Value) : (w.setCell p u).ownsRow base e size v n xs := by
  refine ⟨h.1, ?_⟩
  rcases h.2 with h1 | ⟨g, cap, cur, h1, h2, h3, h4⟩
  · exact .inl h1
  · refine .inr ⟨g, cap, cur, h1, h2, ?_, h4⟩
    rw [Below.heap_setCell _ _ _ _ (fun e => hp (by rw [h1, ← e]; rfl))]
    exact h3

theorem far_cell {w : World} {p q : Addr} {u : Value} {v : Option Value} (hne : p.block ≠ q.block) (h : w.cell? q = v) : (w.setCell p u).cell? q = v :=
  (World.cell?_setCell_other w p q u (fun e => hne (by rw [e]))).trans h
theorem ret_int {k : IntKind} {a b : Int} (h : a = b) : Ending.returned (.int k a) = .returned (.int k b) := by rw [h]
theorem ret_bool {a b : Bool} (h : a = b) : Ending.returned (.bool a) = .returned (.bool b) := by rw [h]
end
section
open Go.RowKit Go.Sort

def Ext (w w' : World) : Prop := ∃ q os, w' = grow (w.drewN q) os

theorem Ext.refl (w : World) : Ext w w := ⟨0, #[], by rw [grow_empty]; rfl⟩
theorem grow_drewN (w : World) (os : Array Obj) (n : Nat) : (grow w os).drewN n = grow (w.drewN n) os := rfl
theorem Ext.trans {a b c : World} (h : Ext a b) (k : Ext b c) : Ext a c := by
  obtain ⟨q, os, rfl⟩ := h
  obtain ⟨q', os', rfl⟩ := k
  exact ⟨q + q', os ++ os', by rw [grow_drewN, grow_grow, World.drewN_drewN]⟩
theorem Ext.alloc {a w : World} (h : Ext a w) (o : Obj) : Ext a (w.alloc o) := h.trans ⟨0, #[o], by rw [alloc_eq_grow]; rfl⟩
theorem Ext.drewN {a w : World} (h : Ext a w) (n : Nat) : Ext a (w.drewN n) := h.trans ⟨n, #[], by rw [grow_empty]⟩
theorem Ext.drew {a w : World} (h : Ext a w) : Ext a w.drew := h.drewN 1
theorem Ext.size {a w : World} (h : Ext a w) : a.heap.size ≤ w.heap.size := by
  obtain ⟨q, os, rfl⟩ := h
  simp [grow, World.drewN]
theorem Ext.below {a w : World} (h : Ext a w) : Below a.heap.size a w := by
  obtain ⟨q, os, rfl⟩ := h
  refine ⟨rfl, rfl, rfl, by simp [grow, World.drewN], fun k hk => ?_⟩
  exact heap_grow_old (a.drewN q) os hk
theorem Ext.cell {a w : World} (h : Ext a w) {b o : Nat} (hb : b < a.heap.size) : w.cell? ⟨b, o, none⟩ = a.cell? ⟨b, o, none⟩ := h.below.cell (p := ⟨b, o, none⟩) hb
theorem Ext.frozen {a w : World} (h : Ext a w) {b o : Nat} (hb : b < a.heap.size) : w.frozen? ⟨b, o, none⟩ = a.frozen? ⟨b, o, none⟩ := h.below.frozen (p := ⟨b, o, none⟩) hb
theorem Ext.rules {W w1 : World} (h : Ext W w1) : (∀ b o, b < W.heap.size → w1.cell? ⟨b, o, none⟩ = W.cell? ⟨b, o, none⟩) ∧ (∀ b o, b < W.heap.size → w1.frozen? ⟨b, o, none⟩ = W.frozen? ⟨b, o, none⟩) :=
  ⟨fun _ _ hb => h.cell hb, fun _ _ hb => h.frozen hb⟩
theorem Sl.ext {B : Nat} {w w' : World} {A : Option Addr} {xs : List Value} (h : Sl B w A xs) (hB : B ≤ w.heap.size) (he : Ext w w') : Sl B w' A xs := h.below he.below hB

abbrev vv (v : RL.V) : Value := .agg #[.int .i64 v.kind, .int .i64 v.int, .string v.str]
def vcells (v : RL.V) : List Value := [.int .i64 v.kind, .int .i64 v.int, .string v.str]
def rcells (x : RL.R) : List Value := x.flatMap vcells
theorem rcells_length (x : RL.R) : (rcells x).length = x.length * 3 := by
  induction x with
  | nil => rfl
  | cons v x ih => simp [rcells, vcells] at *; omega
theorem rcells_cons (v : RL.V) (x : RL.R) : rcells (v :: x) = vcells v ++ rcells x := by simp [rcells]
theorem rcells_append (x y : RL.R) : rcells (x ++ y) = rcells x ++ rcells y := by simp [rcells]
theorem rcells_get (x : RL.R) (i : Nat) (v : RL.V) (h : x[i]? = some v) : (rcells x)[i * 3]? = some (.int .i64 v.kind) ∧ (rcells x)[i * 3 + 1]? = some (.int .i64 v.int) ∧ (rcells x)[i * 3 + 2]? = some (.string v.str) := by
  induction x generalizing i with
  | nil => simp at h
  | cons u x ih =>
    rw [rcells_cons]
    cases i with
    | zero => simp at h; subst h; simp [vcells]
    | succ i =>
      simp at h
      have := ih i h
      have e1 : (i + 1) * 3 = i * 3 + 3 := by omega
      have e2 : (i + 1) * 3 + 1 = i * 3 + 1 + 3 := by omega
      have e3 : (i + 1) * 3 + 2 = i * 3 + 2 + 3 := by omega
      rw [e3]
      rw [show i * 3 + 3 + 1 = i * 3 + 1 + 3 by omega] at *
      simp only [e1, vcells] at *
      refine ⟨?_, ?_, ?_⟩
      · rw [List.getElem?_append_right (by simp)]; simpa using this.1
      · rw [List.getElem?_append_right (by simp)]; simpa using this.2.1
      · rw [List.getElem?_append_right (by simp)]; simpa using this.2.2
theorem rcells_one (x : RL.R) : ∀ u ∈ rcells x, u.oneCell' = true := by
  intro u hu
  simp [rcells, vcells] at hu
  obtain ⟨v, _, h⟩ := hu
  rcases h with rfl | rfl | rfl <;> rfl
def SlR (B : Nat) (w : World) (A : Option Addr) (x : RL.R) : Prop := Sl B w A (rcells x)
theorem SlR.nil {B : Nat} {w : World} {A : Option Addr} : SlR B w A [] := Sl.nil
theorem SlR.ext {B : Nat} {w w' : World} {A : Option Addr} {x : RL.R} (h : SlR B w A x) (hB : B ≤ w.heap.size) (he : Ext w w') : SlR B w' A x := Sl.ext h hB he
theorem SlR.below {B C : Nat} {w w' : World} {A : Option Addr} {x : RL.R} (h : SlR B w A x) (hb : Below C w w') (hC : B ≤ C) : SlR B w' A x := Sl.below h hb hC
theorem SlR.more {B B' : Nat} {w : World} {A : Option Addr} {x : RL.R} (h : SlR B w A x) (hB : B ≤ B') : SlR B' w A x := Sl.more h hB
theorem slR_at {B : Nat} {w : World} {A : Option Addr} {x : RL.R} (h : SlR B w A x) {i : Nat} (hi : i < x.length) :
    ∃ b o, A = some ⟨b, o, none⟩ ∧ b < B ∧ w.cell? ⟨b, o + i * 3, none⟩ = some (.int .i64 x[i].kind) ∧ w.cell? ⟨b, o + i * 3 + 1, none⟩ = some (.int .i64 x[i].int) ∧ w.cell? ⟨b, o + i * 3 + 2, none⟩ = some (.string x[i].str) := by
  obtain ⟨b, o, e, hb, hc⟩ := h (by intro h0; have := congrArg List.length h0; rw [rcells_length] at this; simp only [List.length_nil] at this; omega)
  obtain ⟨g1, g2, g3⟩ := rcells_get x i x[i] (List.getElem?_eq_getElem hi)
  exact ⟨b, o, e, hb, hc _ _ g1, by rw [Nat.add_assoc]; exact hc _ _ g2, by rw [Nat.add_assoc]; exact hc _ _ g3⟩
end
end Go.Proofs.YtdadchpiibipoaaGreatDoor
section
namespace Go.Proofs
open Go.Shelf
def YtdadchpiibipoaaGreatDoor.lStrCmp_ren : Go.Shelf.Ren := ⟨fun | 106 => 123 | 213 => 154 | 265 => 174 | n => n, fun | 9 => 9 | 3 => 3 | n => n, fun | n => n⟩
theorem YtdadchpiibipoaaGreatDoor.lStrCmp : Go.Proofs.Lays.n106 Tryz.prog YtdadchpiibipoaaGreatDoor.lStrCmp_ren := {
  mixed := by kernel_rfl
  f106 := Tryz.func123.trans (congrArg some (by kernel_rfl))
  f213 := Tryz.func154.trans (congrArg some (by kernel_rfl))
  f265 := Tryz.func174.trans (congrArg some (by kernel_rfl))
  t3 := Tryz.underlying3
  a3 := Tryz.isAgg3
  z3 := Tryz.sizeOf3
  v3 := Tryz.zeroValue3
  t9 := Tryz.underlying9
  a9 := Tryz.isAgg9
  z9 := Tryz.sizeOf9
  v9 := Tryz.zeroValue9 }
def YtdadchpiibipoaaGreatDoor.lCmpInt_ren : Go.Shelf.Ren := ⟨fun | 122 => 121 | 215 => 152 | n => n, fun | 3 => 3 | 4 => 4 | n => n, fun | n => n⟩
theorem YtdadchpiibipoaaGreatDoor.lCmpInt : Go.Proofs.Lays.n122 Tryz.prog YtdadchpiibipoaaGreatDoor.lCmpInt_ren := {
  mixed := by kernel_rfl
  f122 := Tryz.func121.trans (congrArg some (by kernel_rfl))
  f215 := Tryz.func152.trans (congrArg some (by kernel_rfl))
  t3 := Tryz.underlying3
  a3 := Tryz.isAgg3
  z3 := Tryz.sizeOf3
  v3 := Tryz.zeroValue3
  t4 := Tryz.underlying4
  a4 := Tryz.isAgg4
  z4 := Tryz.sizeOf4
  v4 := Tryz.zeroValue4 }
def YtdadchpiibipoaaGreatDoor.lSearch_ren : Go.Shelf.Ren := ⟨fun | 16 => 84 | n => n, fun | 3 => 3 | 35 => 142 | 4 => 4 | 38 => 154 | n => n, fun | n => n⟩
theorem YtdadchpiibipoaaGreatDoor.lSearch : Go.Proofs.SlLaysO.n16 Tryz.prog YtdadchpiibipoaaGreatDoor.lSearch_ren := {
  mixed := by kernel_rfl
  f16 := Tryz.func84.trans (congrArg some (by kernel_rfl))
  t3 := Tryz.underlying3
  a3 := Tryz.isAgg3
  z3 := Tryz.sizeOf3
  v3 := Tryz.zeroValue3
  t4 := Tryz.underlying4
  a4 := Tryz.isAgg4
  z4 := Tryz.sizeOf4
  v4 := Tryz.zeroValue4
  t35 := Tryz.underlying142
  a35 := Tryz.isAgg142
  z35 := Tryz.sizeOf142
  v35 := Tryz.zeroValue142
  t38 := Tryz.underlying154
  a38 := Tryz.isAgg154
  z38 := Tryz.sizeOf154
  v38 := Tryz.zeroValue154 }
def YtdadchpiibipoaaGreatDoor.lIsSorted_ren : Go.Shelf.Ren := ⟨fun | 7 => 134 | n => n, fun | 22 => 38 | 24 => 42 | 25 => 148 | 4 => 4 | 3 => 3 | 0 => 0 | n => n, fun | n => n⟩
theorem YtdadchpiibipoaaGreatDoor.lIsSorted : Go.Proofs.SlLaysG2.n7 Tryz.prog YtdadchpiibipoaaGreatDoor.lIsSorted_ren := {
  mixed := by kernel_rfl
  f7 := ⟨Tryz.f134.name, by decide, Tryz.func134.trans (congrArg some (by kernel_rfl))⟩
  t0 := Tryz.underlying0
  a0 := Tryz.isAgg0
  z0 := Tryz.sizeOf0
  v0 := Tryz.zeroValue0
  t3 := Tryz.underlying3
  a3 := Tryz.isAgg3
  z3 := Tryz.sizeOf3
  v3 := Tryz.zeroValue3
  t4 := Tryz.underlying4
  a4 := Tryz.isAgg4
  z4 := Tryz.sizeOf4
  v4 := Tryz.zeroValue4
  t22 := Tryz.underlying38
  a22 := Tryz.isAgg38
  z22 := Tryz.sizeOf38
  v22 := Tryz.zeroValue38
  a24 := Tryz.isAgg42
  z24 := Tryz.sizeOf42
  t25 := Tryz.underlying148
  a25 := Tryz.isAgg148
  z25 := Tryz.sizeOf148
  v25 := Tryz.zeroValue148 }
def YtdadchpiibipoaaGreatDoor.lCloneRow_ren : Go.Shelf.Ren := ⟨fun | 41 => 78 | n => n, fun | 22 => 42 | 23 => 82 | 4 => 4 | n => n, fun | n => n⟩
theorem YtdadchpiibipoaaGreatDoor.lCloneRow : Go.Proofs.SlLaysE0.n41 Tryz.prog YtdadchpiibipoaaGreatDoor.lCloneRow_ren := {
  mixed := by kernel_rfl
  f41 := ⟨Tryz.f78.name, by decide, Tryz.func78.trans (congrArg some (by kernel_rfl))⟩
  t4 := Tryz.underlying4
  a4 := Tryz.isAgg4
  z4 := Tryz.sizeOf4
  v4 := Tryz.zeroValue4
  t22 := Tryz.underlying42
  a22 := Tryz.isAgg42
  z22 := Tryz.sizeOf42
  v22 := Tryz.zeroValue42 }
def YtdadchpiibipoaaGreatDoor.lCloneRows_ren : Go.Shelf.Ren := ⟨fun | 41 => 111 | n => n, fun | 22 => 38 | 23 => 42 | 4 => 4 | n => n, fun | n => n⟩
theorem YtdadchpiibipoaaGreatDoor.lCloneRows : Go.Proofs.SlLaysE0.n41 Tryz.prog YtdadchpiibipoaaGreatDoor.lCloneRows_ren := {
  mixed := by kernel_rfl
  f41 := ⟨Tryz.f111.name, by decide, Tryz.func111.trans (congrArg some (by kernel_rfl))⟩
  t4 := Tryz.underlying4
  a4 := Tryz.isAgg4
  z4 := Tryz.sizeOf4
  v4 := Tryz.zeroValue4
  t22 := Tryz.underlying38
  a22 := Tryz.isAgg38
  z22 := Tryz.sizeOf38
  v22 := Tryz.zeroValue38 }
end Go.Proofs
end
namespace Go.Proofs.YtdadchpiibipoaaGreatDoor
section
open Go.RowKit Go.Sort

theorem cmpInt_any (x y : Int) (w : World) : Calls Tryz.prog 121 #[.int .i64 x, .int .i64 y] w fun e w' => e = .returned (.int .i64 (RL.cmpI x y)) ∧ w' = w := by
  have h := Any.cmp_Compare_int lCmpInt x y w
  refine Calls.mono h fun e w' ⟨h1, h2⟩ => ⟨?_, h2⟩
  rw [h1]
  rfl

theorem nanInt64_any (x : Int) (w : World) : Calls Tryz.prog 153 #[.int .i64 x] w fun e w' => e = .returned (.bool false) ∧ w' = w := by
  go_enter Tryz.func153, Tryz.ntmps153
  go_wp2
  go_ret
  exact ⟨by simp, rfl⟩

theorem cmpInt64_any (x y : Int) (w : World) : Calls Tryz.prog 122 #[.int .i64 x, .int .i64 y] w fun e w' => e = .returned (.int .i64 (RL.cmpI x y)) ∧ w' = w := by
  by_cases h : x < y
  · have hr : RL.cmpI x y = -1 := by simp [RL.cmpI, h]
    rw [hr]
    clear hr
    go_enter Tryz.func122, Tryz.ntmps122
    go_wp2_with (go_at_call 153; refine (nanInt64_any _ _).mono ?_; rintro e w' ⟨rfl, rfl⟩)
    go_ret
    exact ⟨rfl, rfl⟩
  · by_cases h2 : y < x
    · have hr : RL.cmpI x y = 1 := by simp [RL.cmpI, h, h2]
      rw [hr]
      clear hr
      go_enter Tryz.func122, Tryz.ntmps122
      go_wp2_with (go_at_call 153; refine (nanInt64_any _ _).mono ?_; rintro e w' ⟨rfl, rfl⟩)
      go_ret
      exact ⟨rfl, rfl⟩
    · have hr : RL.cmpI x y = 0 := by simp [RL.cmpI, h, h2]
      rw [hr]
      clear hr
      go_enter Tryz.func122, Tryz.ntmps122
      go_wp2_with (go_at_call 153; refine (nanInt64_any _ _).mono ?_; rintro e w' ⟨rfl, rfl⟩)
      go_ret
      exact ⟨rfl, rfl⟩

theorem strCompare_any (a b : ByteArray) (w : World) : Calls Tryz.prog 123 #[.string a, .string b] w fun e w' => e = .returned (.int .i64 (RL.cmpS a b)) ∧ w' = w :=
  Any.strings_Compare lStrCmp a b w

theorem vCompare_any (a b : RL.V) (w : World) : Calls Tryz.prog 105 #[vv a, vv b] w fun e w' => e = .returned (.int .i64 (RL.cmpV a b)) ∧ Ext w w' := by
  obtain ⟨k, i, s⟩ := a
  obtain ⟨k', i', s'⟩ := b
  show Calls Tryz.prog 105 #[.agg #[.int .i64 k, .int .i64 i, .string s], .agg #[.int .i64 k', .int .i64 i', .string s']] w _
  have hE : ∀ o1 o2 : Obj, Ext w ((w.alloc o1).alloc o2) := fun o1 o2 => ((Ext.refl w).alloc o1).alloc o2
  by_cases h1 : k = k'
  · by_cases h2 : i = i'
    · rw [RL.cmpV_str (a := ⟨k, i, s⟩) (b := ⟨k', i', s'⟩) h1 h2]
      have d1 : (k != k') = false := by simp [h1]
      have d2 : (i != i') = false := by simp [h2]
      clear h1 h2
      go_enter Tryz.func105, Tryz.ntmps105
      go_wp2_with (go_at_call 123; refine (strCompare_any _ _ _).mono ?_; rintro e w' ⟨rfl, rfl⟩)
      go_ret
      exact ⟨rfl, hE _ _⟩
    · rw [RL.cmpV_int (a := ⟨k, i, s⟩) (b := ⟨k', i', s'⟩) h1 h2]
      have d1 : (k != k') = false := by simp [h1]
      have d2 : (i != i') = true := by simp [h2]
      clear h1 h2
      go_enter Tryz.func105, Tryz.ntmps105
      go_wp2_with (go_at_call 122; refine (cmpInt64_any _ _ _).mono ?_; rintro e w' ⟨rfl, rfl⟩)
      go_ret
      exact ⟨rfl, hE _ _⟩
  · rw [RL.cmpV_kind (a := ⟨k, i, s⟩) (b := ⟨k', i', s'⟩) h1]
    have d1 : (k != k') = true := by simp [h1]
    clear h1
    go_enter Tryz.func105, Tryz.ntmps105
    go_wp2_with (go_at_call 121; refine (cmpInt_any _ _ _).mono ?_; rintro e w' ⟨rfl, rfl⟩)
    go_ret
    exact ⟨rfl, hE _ _⟩

theorem loop_ne (bs : ByteArray) (i : Nat) (r : List UInt8) (h : r ≠ [] ∨ i < bs.size) : ByteArray.toList.loop bs i r ≠ [] := by
  rw [ByteArray.toList.loop]
  split
  · exact loop_ne bs (i + 1) _ (.inl (by simp))
  · rename_i h2
    rcases h with h | h
    · simpa using h
    · exact absurd h h2
  termination_by bs.size - i
theorem str_empty (s : ByteArray) : s.toList.isEmpty = decide (s.size = 0) := by
  rw [Bool.eq_iff_iff, List.isEmpty_iff, decide_eq_true_eq]
  constructor
  · intro h
    refine Classical.byContradiction fun h2 => ?_
    exact loop_ne s 0 [] (.inr (by omega)) h
  · intro h
    unfold ByteArray.toList
    rw [ByteArray.toList.loop, if_neg (by omega)]; rfl
theorem str_le24 (s : ByteArray) : decide ((s.size : Int) ≤ 24) = decide (s.size ≤ 24) := by
  rw [Bool.eq_iff_iff]; simp; omega

theorem vValid_any (a : RL.V) (w : World) (hs : a.str.size ≤ 9223372036854775807) : Calls Tryz.prog 73 #[vv a] w fun e w' => e = .returned (.bool (RL.validV a)) ∧ Ext w w' := by
  obtain ⟨k, i, s⟩ := a
  show Calls Tryz.prog 73 #[.agg #[.int .i64 k, .int .i64 i, .string s]] w _
  have hE : ∀ o1 : Obj, Ext w (w.alloc o1) := fun o1 => (Ext.refl w).alloc o1
  simp only at hs
  by_cases h1 : k = 1
  · subst h1
    have hv : RL.validV ⟨1, i, s⟩ = decide (s.size = 0) := by simp [RL.validV]
    rw [hv]
    go_enter Tryz.func73, Tryz.ntmps73
    go_wp2
    go_ret
    exact ⟨ret_bool (str_empty s), hE _⟩
  · have hk1 : (k == 1) = false := by simpa using h1
    by_cases h2 : k = 2
    · subst h2
      by_cases h3 : i = 0
      · subst h3
        have hv : RL.validV ⟨2, 0, s⟩ = decide (s.size ≤ 24) := by simp [RL.validV]
        rw [hv]
        clear hv
        go_enter Tryz.func73, Tryz.ntmps73
        go_wp2
        go_ret
        exact ⟨ret_bool (str_le24 s), hE _⟩
      · have hv : RL.validV ⟨2, i, s⟩ = false := by simp [RL.validV, h3]
        have hi0 : (i == 0) = false := by simpa using h3
        rw [hv]
        clear hv
        go_enter Tryz.func73, Tryz.ntmps73
        go_wp2
        go_ret
        exact ⟨rfl, hE _⟩
    · have hv : RL.validV ⟨k, i, s⟩ = false := by simp [RL.validV, h1, h2]
      have hk2 : (k == 2) = false := by simpa using h2
      rw [hv]
      clear hv
      go_enter Tryz.func73, Tryz.ntmps73
      go_wp2
      go_ret
      exact ⟨rfl, hE _⟩
end
section
open Go.RowKit Go.Sort

theorem cmpR_drop {x y : RL.R} {k : Nat} (h1 : k < x.length) (h2 : k < y.length) (h : RL.cmpV x[k] y[k] = 0) : RL.cmpR (x.drop k) (y.drop k) = RL.cmpR (x.drop (k + 1)) (y.drop (k + 1)) := by
  rw [List.drop_eq_getElem_cons h1, List.drop_eq_getElem_cons h2]
  simp [RL.cmpR, RL.cmpL, h]
theorem cmpR_drop_ne {x y : RL.R} {k : Nat} (h1 : k < x.length) (h2 : k < y.length) (h : RL.cmpV x[k] y[k] ≠ 0) : RL.cmpR (x.drop k) (y.drop k) = RL.cmpV x[k] y[k] := by
  rw [List.drop_eq_getElem_cons h1, List.drop_eq_getElem_cons h2]
  simp [RL.cmpR, RL.cmpL, h]
theorem cmpR_end {x y : RL.R} {k : Nat} (h1 : k ≤ x.length) (h2 : k ≤ y.length) (h : x.length = k ∨ y.length = k) : RL.cmpR (x.drop k) (y.drop k) = if x.length < y.length then -1 else if y.length < x.length then 1 else 0 := by
  rcases h with h | h
  · rw [List.drop_of_length_le (by omega : x.length ≤ k), RL.cmpR_nil]
    by_cases h3 : y.drop k = []
    · have := congrArg List.length h3
      simp at this
      rw [if_pos h3, if_neg (by omega), if_neg (by omega)]
    · have : k < y.length := by
        refine Classical.byContradiction fun h4 => h3 (List.drop_of_length_le (by omega))
      rw [if_neg h3, if_pos (by omega)]
  · rw [List.drop_of_length_le (by omega : y.length ≤ k)]
    cases h3 : x.drop k with
    | nil =>
      have := congrArg List.length h3
      simp at this
      rw [if_neg (by omega), if_neg (by omega)]; rfl
    | cons v r =>
      have := congrArg List.length h3
      simp at this
      rw [if_neg (by omega), if_pos (by omega)]; rfl

set_option maxHeartbeats 400000 in
theorem rwCompareBy_any (XA YA : Option Addr) (XC YC : Nat) (x y : RL.R) (w : World) (hx : SlR w.heap.size w XA x) (hy : SlR w.heap.size w YA y) (hxl : x.length ≤ 1000000) (_hyl : y.length ≤ 1000000) :
    Calls Tryz.prog 86 #[.slice XA x.length XC, .slice YA y.length YC, .slice none 0 0] w fun e w' => e = .returned (.int .i64 (RL.cmpR x y)) ∧ Ext w w' := by
  have HX := Lib.hid hx
  have HY := Lib.hid hy
  clear hx hy
  go_enter Tryz.func86, Tryz.ntmps86
  go_wp2
  go_loopw [14] (fun i wr => ∃ k : Nat, k ≤ x.length ∧ k ≤ y.length ∧ i = .int .i64 k ∧ RL.cmpR x y = RL.cmpR (x.drop k) (y.drop k) ∧ Ext w wr) (fun i _ => x.length - (intOf i).toNat)
  case atStart => exact ⟨0, Nat.zero_le _, Nat.zero_le _, rfl, by simp, Ext.refl _⟩
  case round =>
    obtain ⟨k, hka, hkb, rfl, hd, he⟩ := hrel
    have HD := Lib.hid hd
    clear hd
    by_cases h1 : k < x.length
    · by_cases h2 : k < y.length
      · obtain ⟨b, o, rfl, hb, c1, c2, c3⟩ := slR_at HX.out h1
        obtain ⟨b', o', rfl, hb', c1', c2', c3'⟩ := slR_at HY.out h2
        obtain ⟨hc, hf⟩ := he.rules
        have HN : Hid (RL.cmpV x[k] y[k] ≠ 0 → RL.cmpR x y = RL.cmpV x[k] y[k]) := fun h => HD.out.trans (cmpR_drop_ne h1 h2 h)
        have HZ : Hid (RL.cmpV x[k] y[k] = 0 → RL.cmpR x y = RL.cmpR (x.drop (k + 1)) (y.drop (k + 1))) := fun h => HD.out.trans (cmpR_drop h1 h2 h)
        generalize x[k] = u at c1 c2 c3 HN HZ
        generalize y[k] = v at c1' c2' c3' HN HZ
        go_wp2
        go_still_tail 8, (by kernel_rfl)
        go_wp2_with fail
        refine (vCompare_any u v _).mono ?_
        rintro e w2 ⟨rfl, hx2⟩
        have HE2 := Lib.hid (he.drew.trans hx2)
        clear hc hf c1 c2 c3 c1' c2' c3' hx2 he
        by_cases hz : RL.cmpV u v = 0
        · have HZ2 := Lib.hid (HZ.out hz)
          have hz2 : (RL.cmpV u v == 0) = true := by simpa using hz
          clear hz HZ HN
          generalize RL.cmpV u v = c at *
          go_wp2
          go_roundw
          case rel => exact ⟨k + 1, by omega, by omega, by go_num, HZ2.out, HE2.out⟩
          case measure => simp [intOf]; omega
        · have HN2 := Lib.hid (HN.out hz)
          have hz2 : (RL.cmpV u v == 0) = false := by simpa using hz
          clear hz HZ HN
          generalize RL.cmpV u v = c at *
          go_wp2
          go_ret
          exact ⟨ret_int HN2.out.symm, HE2.out⟩
      · have HR := Lib.hid (HD.out.trans (cmpR_end hka hkb (.inr (by omega))))
        clear HD
        have hn : ¬ (k : Int) < min (x.length : Int) (y.length : Int) := by omega
        by_cases g1 : x.length < y.length
        · have HR2 := Lib.hid (HR.out.trans (if_pos g1))
          go_wp2
          go_ret
          exact ⟨ret_int HR2.out.symm, he⟩
        · by_cases g2 : y.length < x.length
          · have HR2 := Lib.hid ((HR.out.trans (if_neg g1)).trans (if_pos g2))
            go_wp2
            go_ret
            exact ⟨ret_int HR2.out.symm, he⟩
          · have HR2 := Lib.hid ((HR.out.trans (if_neg g1)).trans (if_neg g2))
            go_wp2
            go_ret
            exact ⟨ret_int HR2.out.symm, he⟩
    · have HR := Lib.hid (HD.out.trans (cmpR_end hka hkb (.inl (by omega))))
      clear HD
      have hn : ¬ (k : Int) < min (x.length : Int) (y.length : Int) := by omega
      by_cases g1 : x.length < y.length
      · have HR2 := Lib.hid (HR.out.trans (if_pos g1))
        go_wp2
        go_ret
        exact ⟨ret_int HR2.out.symm, he⟩
      · by_cases g2 : y.length < x.length
        · have HR2 := Lib.hid ((HR.out.trans (if_neg g1)).trans (if_pos g2))
          go_wp2
          go_ret
          exact ⟨ret_int HR2.out.symm, he⟩
        · have HR2 := Lib.hid ((HR.out.trans (if_neg g1)).trans (if_neg g2))
          go_wp2
          go_ret
          exact ⟨ret_int HR2.out.symm, he⟩

theorem rwCompare_any (XA YA : Option Addr) (XC YC : Nat) (x y : RL.R) (w : World) (hx : SlR w.heap.size w XA x) (hy : SlR w.heap.size w YA y) (hxl : x.length ≤ 1000000) (hyl : y.length ≤ 1000000) :
    Calls Tryz.prog 93 #[.slice XA x.length XC, .slice YA y.length YC] w fun e w' => e = .returned (.int .i64 (RL.cmpR x y)) ∧ Ext w w' := by
  have HC := Lib.hid (rwCompareBy_any XA YA XC YC x y w hx hy hxl hyl)
  clear hx hy
  generalize RL.cmpR x y = c at *
  go_enter Tryz.func93, Tryz.ntmps93
  go_wp2_with (go_at_call 86; refine HC.out.mono ?_; rintro e w' ⟨rfl, hx⟩)
  go_ret
  exact ⟨rfl, hx⟩

theorem rwEqual_any (XA YA : Option Addr) (XC YC : Nat) (x y : RL.R) (w : World) (hx : SlR w.heap.size w XA x) (hy : SlR w.heap.size w YA y) (hxl : x.length ≤ 1000000) (hyl : y.length ≤ 1000000) :
    Calls Tryz.prog 83 #[.slice XA x.length XC, .slice YA y.length YC] w fun e w' => e = .returned (.bool (decide (x = y))) ∧ Ext w w' := by
  have HC := Lib.hid (rwCompare_any XA YA XC YC x y w hx hy hxl hyl)
  have HQ : Hid ((RL.cmpR x y == 0) = decide (x = y)) := by
    show _ = _
    rw [Bool.eq_iff_iff]; simp [RL.tot_cmpR.z]
  clear hx hy
  generalize RL.cmpR x y = c at *
  go_enter Tryz.func83, Tryz.ntmps83
  go_wp2_with (go_at_call 93; refine HC.out.mono ?_; rintro e w' ⟨rfl, hx⟩)
  go_ret
  exact ⟨ret_bool HQ.out, hx⟩

def StrOk (x : RL.R) : Prop := ∀ v ∈ x, v.str.size ≤ 1000000000

set_option maxHeartbeats 400000 in
theorem rwValid_any (XA : Option Addr) (XC : Nat) (x : RL.R) (w : World) (hx : SlR w.heap.size w XA x) (hxl : x.length ≤ 1000000) (hs : StrOk x) :
    Calls Tryz.prog 55 #[.slice XA x.length XC] w fun e w' => e = .returned (.bool (x.all RL.validV)) ∧ Ext w w' := by
  have HX := Lib.hid hx
  have HST := Lib.hid hs
  clear hx hs
  go_enter Tryz.func55, Tryz.ntmps55
  go_wp2
  go_loopw [6] (fun i wr => ∃ k : Nat, k ≤ x.length ∧ i = .int .i64 k ∧ x.all RL.validV = (x.drop k).all RL.validV ∧ Ext w wr) (fun i _ => x.length - (intOf i).toNat)
  case atStart => exact ⟨0, Nat.zero_le _, rfl, by simp, Ext.refl _⟩
  case round =>
    obtain ⟨k, hka, rfl, hd, he⟩ := hrel
    have HD := Lib.hid hd
    clear hd
    by_cases h1 : k < x.length
    · obtain ⟨b, o, rfl, hb, c1, c2, c3⟩ := slR_at HX.out h1
      obtain ⟨hc, hf⟩ := he.rules
      have HN := Lib.hid (HD.out.trans (by rw [List.drop_eq_getElem_cons h1, List.all_cons] : (x.drop k).all RL.validV = (RL.validV x[k] && (x.drop (k + 1)).all RL.validV)))
      have HC : Hid (∀ W, Calls Tryz.prog 73 #[vv x[k]] W fun e w' => e = .returned (.bool (RL.validV x[k])) ∧ Ext W w') := fun W => vValid_any x[k] W (Nat.le_trans (HST.out _ (List.getElem_mem h1)) (by omega))
      generalize x[k] = u at c1 c2 c3 HN HC
      cases hv : RL.validV u
      · rw [hv] at HC HN
        clear hv
        go_wp2_with fail
        refine (HC.out _).mono ?_
        rintro e w2 ⟨rfl, hx2⟩
        have HE2 := Lib.hid (he.trans hx2)
        clear hc hf c1 c2 c3 hx2 he
        go_wp2
        go_ret
        exact ⟨ret_bool (by rw [HN.out]; rfl), HE2.out⟩
      · rw [hv] at HC HN
        clear hv
        go_wp2_with fail
        refine (HC.out _).mono ?_
        rintro e w2 ⟨rfl, hx2⟩
        have HE2 := Lib.hid (he.trans hx2)
        clear hc hf c1 c2 c3 hx2 he
        go_wp2
        go_roundw
        case rel => exact ⟨k + 1, by omega, by go_num, by rw [HN.out]; rfl, HE2.out⟩
        case measure => simp [intOf]; omega
    · have HR := Lib.hid (HD.out.trans (by rw [List.drop_of_length_le (by omega)]; rfl : (x.drop k).all RL.validV = true))
      go_wp2
      go_ret
      exact ⟨ret_bool HR.out.symm, he⟩
end
section
open Go.RowKit Go.Sort

def SlRs (B : Nat) (w : World) (A : Option Addr) (X : List RL.R) : Prop :=
  X ≠ [] → ∃ b o, A = some ⟨b, o, none⟩ ∧ b < B ∧ ∀ i (h : i < X.length), ∃ A' C', w.cell? ⟨b, o + i, none⟩ = some (.slice A' X[i].length C') ∧ X[i].length ≤ C' ∧ C' ≤ 9223372036854775807 ∧ SlR B w A' X[i]

section
variable {B C : Nat} {w w' : World} {A : Option Addr} {X : List RL.R}
theorem SlRs.nil : SlRs B w A [] := fun h => absurd rfl h
theorem SlRs.keep (h : SlRs B w A X) (hk : ∀ p : Addr, p.block < B → w'.cell? p = w.cell? p) : SlRs B w' A X := fun hn => by
  obtain ⟨b, o, e, hb, hc⟩ := h hn
  refine ⟨b, o, e, hb, fun i hi => ?_⟩
  obtain ⟨A', C', h1, h2, h2', h3⟩ := hc i hi
  exact ⟨A', C', (hk _ hb).trans h1, h2, h2', Sl.keep h3 hk⟩
theorem SlRs.below (h : SlRs B w A X) (hb : Below C w w') (hC : B ≤ C) : SlRs B w' A X := h.keep fun _ hp => hb.cell (by omega)
theorem SlRs.ext (h : SlRs B w A X) (hB : B ≤ w.heap.size) (he : Ext w w') : SlRs B w' A X := h.below he.below hB
theorem SlRs.more {B' : Nat} (h : SlRs B w A X) (hB : B ≤ B') : SlRs B' w A X := fun hn => by
  obtain ⟨b, o, e, hb, hc⟩ := h hn
  refine ⟨b, o, e, by omega, fun i hi => ?_⟩
  obtain ⟨A', C', h1, h2, h2', h3⟩ := hc i hi
  exact ⟨A', C', h1, h2, h2', h3.more hB⟩
theorem slRs_at (h : SlRs B w A X) {i : Nat} (hi : i < X.length) : ∃ b o A' C', A = some ⟨b, o, none⟩ ∧ b < B ∧ w.cell? ⟨b, o + i, none⟩ = some (.slice A' X[i].length C') ∧ X[i].length ≤ C' ∧ C' ≤ 9223372036854775807 ∧ SlR B w A' X[i] := by
  obtain ⟨b, o, e, hb, hc⟩ := h (by intro h0; subst h0; simp at hi)
  obtain ⟨A', C', h1, h2, h2', h3⟩ := hc i hi
  exact ⟨b, o, A', C', e, hb, h1, h2, h2', h3⟩
end

def ROk (x : RL.R) : Prop := x.length ≤ 1000000 ∧ StrOk x
def RsOk (X : List RL.R) : Prop := ∀ x ∈ X, ROk x
theorem RsOk.at_ {X : List RL.R} (h : RsOk X) {i : Nat} (hi : i < X.length) : ROk X[i] := h _ (List.getElem_mem hi)

theorem SlR.up {w w' : World} {A : Option Addr} {x : RL.R} (h : SlR w.heap.size w A x) (he : Ext w w') : SlR w'.heap.size w' A x := (h.ext (Nat.le_refl _) he).more he.size
theorem SlR.upB {w w' : World} {A : Option Addr} {x : RL.R} (h : SlR w.heap.size w A x) (hb : Below w.heap.size w w') : SlR w'.heap.size w' A x := (h.below hb (Nat.le_refl _)).more hb.size
theorem SlR.alloc1 {w : World} {A : Option Addr} {x : RL.R} (h : SlR w.heap.size w A x) (o : Obj) : SlR (w.alloc o).heap.size (w.alloc o) A x := h.up ((Ext.refl w).alloc o)
theorem SlRs.up {w w' : World} {A : Option Addr} {X : List RL.R} (h : SlRs w.heap.size w A X) (he : Ext w w') : SlRs w'.heap.size w' A X := (h.ext (Nat.le_refl _) he).more he.size
end
end Go.Proofs.YtdadchpiibipoaaGreatDoor
section
namespace Go.Proofs.YtdadchpiibipoaaGreatDoor.RL

def SS (X : List R) : Prop := X.Pairwise fun a b => cmpR a b < 0
def rank (X : List R) (r : R) : Nat := X.countP fun y => decide (cmpR y r < 0)

theorem SS.tail {x : R} {X : List R} (h : SS (x :: X)) : SS X := (List.pairwise_cons.1 h).2
theorem SS.head {x : R} {X : List R} (h : SS (x :: X)) : ∀ y ∈ X, cmpR x y < 0 := (List.pairwise_cons.1 h).1
theorem SS.get {X : List R} (h : SS X) {i j : Nat} (hij : i < j) (hj : j < X.length) : cmpR (X[i]'(by omega)) X[j] < 0 := List.pairwise_iff_getElem.1 h i j (by omega) hj hij
theorem rank_le (X : List R) (r : R) : rank X r ≤ X.length := List.countP_le_length

theorem rank_split {X : List R} (h : SS X) (r : R) : (∀ i (hi : i < X.length), i < rank X r → cmpR X[i] r < 0) ∧ (∀ i (hi : i < X.length), rank X r ≤ i → 0 ≤ cmpR X[i] r) := by
  induction X with
  | nil => exact ⟨fun i hi => absurd hi (by simp), fun i hi => absurd hi (by simp)⟩
  | cons x X ih =>
    obtain ⟨ih1, ih2⟩ := ih h.tail
    by_cases hx : cmpR x r < 0
    · have hr : rank (x :: X) r = rank X r + 1 := by simp [rank, hx]
      rw [hr]
      refine ⟨fun i hi hlt => ?_, fun i hi hge => ?_⟩
      · cases i with
        | zero => exact hx
        | succ i => exact ih1 i (by simpa using hi) (by omega)
      · cases i with
        | zero => omega
        | succ i => exact ih2 i (by simpa using hi) (by omega)
    · have hall : ∀ y ∈ X, ¬ cmpR y r < 0 := fun y hy hlt => hx (tot_cmpR.tr _ _ _ (h.head y hy) hlt)
      have hr : rank (x :: X) r = 0 := by
        have : X.countP (fun y => decide (cmpR y r < 0)) = 0 := List.countP_eq_zero.2 fun y hy => by simpa using hall y hy
        simp [rank, hx, this]
      rw [hr]
      refine ⟨fun i hi hlt => absurd hlt (by omega), fun i hi _ => ?_⟩
      cases i with
      | zero => simp; omega
      | succ i => have hi' : i < X.length := by simpa using hi
                  have := hall X[i] (List.getElem_mem hi'); simp; omega

theorem mem_iff_rank {X : List R} (h : SS X) (r : R) : r ∈ X ↔ ∃ hi : rank X r < X.length, X[rank X r] = r := by
  obtain ⟨h1, h2⟩ := rank_split h r
  constructor
  · intro hm
    obtain ⟨i, hi, e⟩ := List.getElem_of_mem hm
    have hle : rank X r ≤ i := by
      refine Classical.byContradiction fun hn => ?_
      have := h1 i hi (by omega)
      rw [e, tot_cmpR.self] at this
      omega
    have hge : i ≤ rank X r := by
      refine Classical.byContradiction fun hn => ?_
      have hlt := h.get (i := rank X r) (j := i) (by omega) hi
      rw [e] at hlt
      have := h2 (rank X r) (by omega) (Nat.le_refl _)
      omega
    obtain rfl : i = rank X r := by omega
    exact ⟨hi, e⟩
  · rintro ⟨hi, e⟩
    rw [← e]
    exact List.getElem_mem hi

theorem rank_eq_count (X : List R) (r : R) (p : Nat → Bool) (hp : ∀ i (hi : i < X.length), p i = decide (0 ≤ cmpR X[i] r)) : (List.range X.length).countP (fun i => !p i) = rank X r := by
  have e : X.map (fun y => decide (cmpR y r < 0)) = (List.range X.length).map (fun i => !p i) := by
    apply List.ext_getElem (by simp)
    intro i h1 h2
    simp at h1
    simp only [List.getElem_map, List.getElem_range, hp i h1]
    rw [Bool.eq_iff_iff]; simp
  have h := congrArg (List.countP id) e
  simp only [List.countP_map] at h
  unfold rank
  exact h.symm

theorem search_mono {X : List R} (h : SS X) (r : R) {a b : Nat} (hab : a ≤ b) (hb : b < X.length) (ha : 0 ≤ cmpR (X[a]'(by omega)) r) : 0 ≤ cmpR X[b] r := by
  rcases Nat.lt_or_eq_of_le hab with hlt | rfl
  · have h1 := h.get hlt hb
    refine Classical.byContradiction fun hn => ?_
    have := tot_cmpR.tr _ _ _ h1 (show cmpR X[b] r < 0 by omega)
    omega
  · exact ha

theorem countP_split {Y : List R} {p : R → Bool} {j : Nat} (hj : j ≤ Y.length) (h1 : ∀ i (hi : i < Y.length), i < j → p Y[i] = true) (h2 : ∀ i (hi : i < Y.length), j ≤ i → p Y[i] = false) : Y.countP p = j := by
  have e : Y = Y.take j ++ Y.drop j := (List.take_append_drop j Y).symm
  rw [e, List.countP_append]
  have g1 : (Y.take j).countP p = (Y.take j).length := List.countP_eq_length.2 fun y hy => by
    obtain ⟨i, hi, rfl⟩ := List.getElem_of_mem hy
    simp at hi
    rw [List.getElem_take]
    exact h1 i (by omega) (by omega)
  have g2 : (Y.drop j).countP p = 0 := List.countP_eq_zero.2 fun y hy => by
    obtain ⟨i, hi, rfl⟩ := List.getElem_of_mem hy
    simp at hi
    rw [List.getElem_drop, h2 (j + i) (by omega) (by omega)]
    simp
  rw [g1, g2]
  simp
  omega

end Go.Proofs.YtdadchpiibipoaaGreatDoor.RL
end
namespace Go.Proofs.YtdadchpiibipoaaGreatDoor
section
open Go.RowKit Go.Sort

set_option maxHeartbeats 400000 in
theorem rwSearch1_any (p1 p2 p3 : Nat) (RA A : Option Addr) (RC C : Nat) (X : List RL.R) (r : RL.R) (i : Nat) (W : World)
    (h1 : W.cell? ⟨p1, 0, none⟩ = some (.slice RA X.length RC)) (h2 : W.cell? ⟨p2, 0, none⟩ = some (.slice A r.length C)) (h3 : W.cell? ⟨p3, 0, none⟩ = some (.slice none 0 0))
    (hX : SlRs W.heap.size W RA X) (hr : SlR W.heap.size W A r) (hi : i < X.length) (_hXl : X.length ≤ 1000000) (hok : RsOk X) (hrl : r.length ≤ 1000000) :
    Calls Tryz.prog 85 #[.int .i64 i, .pointer (some ⟨p1, 0, none⟩), .pointer (some ⟨p2, 0, none⟩), .pointer (some ⟨p3, 0, none⟩)] W fun e w' => e = .returned (.bool (decide (0 ≤ RL.cmpR X[i] r))) ∧ Ext W w' := by
  obtain ⟨b, o, A', C', rfl, hb, hc, -, -, hs⟩ := slRs_at hX hi
  have HC := Lib.hid (fun W' (he : Ext W W') => rwCompareBy_any A' A C' C X[i] r W' ((hs.ext (Nat.le_refl _) he).more he.size) ((hr.ext (Nat.le_refl _) he).more he.size) (hok.at_ hi).1 hrl)
  clear hX hr hs hok
  generalize X[i] = x at *
  generalize RL.cmpR x r = c at *
  go_enter Tryz.func85, Tryz.ntmps85
  go_wp2
  go_still_tail 6, (by kernel_rfl)
  go_wp2_with (go_at_call 86; refine (HC.out _ (Ext.refl _).drew).mono ?_; rintro e w' ⟨rfl, hx⟩)
  go_ret
  exact ⟨rfl, (Ext.refl _).drew.trans hx⟩

theorem cell_of_row {w : World} {g : Nat} {e : TypeId} {v : Value} (h : Row w g e [v]) : w.cell? ⟨g, 0, none⟩ = some v := h.cell 0

theorem search_val {X : List RL.R} (h : RL.SS X) (r : RL.R) (hi : RL.rank X r < X.length) : decide (X[RL.rank X r] = r) = decide (r ∈ X) := by
  rw [Bool.eq_iff_iff]
  simp only [decide_eq_true_eq]
  rw [RL.mem_iff_rank h r]
  exact ⟨fun e => ⟨hi, e⟩, fun ⟨_, e⟩ => e⟩

set_option maxHeartbeats 1000000 in
theorem rwSearch_any (RA A : Option Addr) (RC C : Nat) (X : List RL.R) (r : RL.R) (w : World)
    (hX : SlRs w.heap.size w RA X) (hr : SlR w.heap.size w A r) (hXl : X.length ≤ 1000000) (hok : RsOk X) (hrl : r.length ≤ 1000000) (hS : RL.SS X) :
    Calls Tryz.prog 56 #[.slice RA X.length RC, .slice A r.length C, .slice none 0 0] w fun e w' => e = .returned (.tuple #[.int .i64 (RL.rank X r), .bool (decide (r ∈ X))]) ∧ Ext w w' := by
  have E0 : ∀ o1 o2 o3 : Obj, Ext w (((w.alloc o1).alloc o2).alloc o3) := fun o1 o2 o3 => (((Ext.refl w).alloc o1).alloc o2).alloc o3
  -- the call of sort.Search, in the world behind the three boxes
  have HS : Hid (Calls Tryz.prog 84 #[.int .i64 X.length, .func (.func 85) #[] #[.pointer (some ⟨w.heap.size, 0, none⟩), .pointer (some ⟨w.heap.size + 1, 0, none⟩), .pointer (some ⟨w.heap.size + 1 + 1, 0, none⟩)]]
      (((w.alloc (.cells #[.slice RA X.length RC] 38)).alloc (.cells #[.slice A r.length C] 42)).alloc (.cells #[.slice none 0 0] 139)) fun e w' => e = .returned (.int .i64 (RL.rank X r)) ∧ Ext (((w.alloc (.cells #[.slice RA X.length RC] 38)).alloc (.cells #[.slice A r.length C] 42)).alloc (.cells #[.slice none 0 0] 139)) w') := by
    have q1 := ((Row.new w 38 [.slice RA X.length RC]).alloc (.cells #[.slice A r.length C] 42)).alloc (.cells #[.slice none 0 0] 139)
    have q2 := (Row.new (w.alloc (.cells #[.slice RA X.length RC] 38)) 42 [.slice A r.length C]).alloc (.cells #[.slice none 0 0] 139)
    have q3 := Row.new ((w.alloc (.cells #[.slice RA X.length RC] 38)).alloc (.cells #[.slice A r.length C] 42)) 139 [.slice none 0 0]
    simp only [World.size_alloc] at q2 q3
    have hE := E0 (.cells #[.slice RA X.length RC] 38) (.cells #[.slice A r.length C] 42) (.cells #[.slice none 0 0] 139)
    have hz : (((w.alloc (.cells #[.slice RA X.length RC] 38)).alloc (.cells #[.slice A r.length C] 42)).alloc (.cells #[.slice none 0 0] 139)).heap.size = w.heap.size + 1 + 1 + 1 := by simp
    generalize (((w.alloc (.cells #[.slice RA X.length RC] 38)).alloc (.cells #[.slice A r.length C] 42)).alloc (.cells #[.slice none 0 0] 139)) = W at *
    have h := Any.sort_Search lSearch 85 #[.pointer (some ⟨w.heap.size, 0, none⟩), .pointer (some ⟨w.heap.size + 1, 0, none⟩), .pointer (some ⟨w.heap.size + 1 + 1, 0, none⟩)] X.length (fun i => if hi : i < X.length then decide (0 ≤ RL.cmpR X[i] r) else true) W (enters_of Tryz.func85 (by kernel_rfl) rfl) (by omega) ?_ ?_
    · refine Calls.mono h fun e w' ⟨h1, h2⟩ => ⟨?_, h2⟩
      rw [h1, RL.rank_eq_count X r _ (fun i hi => by simp [hi])]
    · intro m os i hi
      have hE2 : Ext W (grow (W.drewN m) os) := ⟨m, os, rfl⟩
      have hE3 := hE.trans hE2
      have hg := rwSearch1_any w.heap.size (w.heap.size + 1) (w.heap.size + 1 + 1) RA A RC C X r i (grow (W.drewN m) os)
        ((hE2.cell (by omega)).trans (cell_of_row q1)) ((hE2.cell (by omega)).trans (cell_of_row q2)) ((hE2.cell (by omega)).trans (cell_of_row q3))
        ((hX.ext (Nat.le_refl _) hE3).more hE3.size) ((hr.ext (Nat.le_refl _) hE3).more hE3.size) hi hXl hok hrl
      refine Calls.mono hg fun e w' ⟨h1, h2⟩ => ⟨?_, h2⟩
      rw [h1]
      simp [hi]
    · intro a b hab hb ha
      have ha' : a < X.length := by omega
      simp only [ha', hb, dif_pos, decide_eq_true_eq] at ha ⊢
      exact RL.search_mono hS r hab hb ha
  have hrk := RL.rank_le X r
  have HX := Lib.hid (fun o1 o2 o3 => ((hX.ext (Nat.le_refl _) (E0 o1 o2 o3)).more (E0 o1 o2 o3).size))
  by_cases hlt : RL.rank X r < X.length
  · have HV := Lib.hid (search_val hS r hlt)
    obtain ⟨b, o, A', C', rfl, hb, hc, -, -, hs⟩ := slRs_at hX hlt
    have HC := Lib.hid (fun W' (he : Ext w W') => rwEqual_any A' A C' C X[RL.rank X r] r W' ((hs.ext (Nat.le_refl _) he).more he.size) ((hr.ext (Nat.le_refl _) he).more he.size) (hok.at_ hlt).1 hrl)
    have HE := Lib.hid E0
    clear hX hr hs hok hS E0
    generalize X[RL.rank X r] = x at *
    generalize RL.rank X r = k at *
    go_enter Tryz.func56, Tryz.ntmps56
    go_wp2_with fail
    refine HS.out.mono ?_
    rintro e w1 ⟨rfl, hx1⟩
    obtain ⟨hcc, hff⟩ := hx1.rules
    have HE1 := Lib.hid ((HE.out _ _ _).trans hx1)
    have e1 : w1.cell? ⟨w.heap.size, 0, none⟩ = some (.slice (some ⟨b, o, none⟩) X.length RC) := (hcc _ _ (by simp; omega)).trans (by go_simp)
    have e2 : w1.cell? ⟨w.heap.size + 1, 0, none⟩ = some (.slice A r.length C) := (hcc _ _ (by simp)).trans (by go_simp)
    have e3 : w1.cell? ⟨b, o + k, none⟩ = some (.slice A' x.length C') := (HE1.out.cell hb).trans hc
    have hz1 : w.heap.size + 1 < w1.heap.size := by have := hx1.size; simp at this; omega
    clear hcc hff
    go_wp2
    go_region_held3 (fun w' => w'.cell? ⟨w.heap.size, 0, none⟩ = some (.slice (some ⟨b, o, none⟩) X.length RC) ∧ w'.cell? ⟨w.heap.size + 1, 0, none⟩ = some (.slice A r.length C) ∧ w'.cell? ⟨b, o + k, none⟩ = some (.slice A' x.length C')) (first | exact KEEP | go_keep)
      (first | (go_at_call 83; refine (HC.out _ HE1.out.drew).mono ?_; rintro e w' ⟨rfl, hx⟩
                have KEEP : w'.cell? ⟨w.heap.size, 0, none⟩ = some (.slice (some ⟨b, o, none⟩) X.length RC) ∧ w'.cell? ⟨w.heap.size + 1, 0, none⟩ = some (.slice A r.length C) ∧ w'.cell? ⟨b, o + k, none⟩ = some (.slice A' x.length C') := ⟨(hx.cell (show w.heap.size < w1.heap.size by omega)).trans e1, (hx.cell hz1).trans e2, (hx.cell (show b < w1.heap.size by omega)).trans e3⟩)
             | fail)
    go_wp2
    go_ret2
    exact ⟨by rw [HV.out]; rfl, HE1.out.drew.trans hx⟩
  · have HV : Hid (decide (r ∈ X) = false) := by
      show _ = _
      simp only [decide_eq_false_iff_not]
      rw [RL.mem_iff_rank hS r]
      exact fun ⟨h, _⟩ => hlt h
    have HE := Lib.hid E0
    have hd : decide (RL.rank X r < X.length) = false := by simpa using hlt
    clear hX hr hok hS E0
    generalize RL.rank X r = k at *
    go_enter Tryz.func56, Tryz.ntmps56
    go_wp2_with fail
    refine HS.out.mono ?_
    rintro e w1 ⟨rfl, hx1⟩
    obtain ⟨hcc, hff⟩ := hx1.rules
    have HE1 := Lib.hid ((HE.out _ _ _).trans hx1)
    go_wp2
    go_quiet (fail)
    go_wp2
    go_ret2
    exact ⟨by rw [HV.out]; rfl, HE1.out.drewN _⟩

set_option maxHeartbeats 400000 in
theorem rlSearch_any (N : Int) (RA A : Option Addr) (RC C : Nat) (X : List RL.R) (r : RL.R) (w : World)
    (hX : SlRs w.heap.size w RA X) (hr : SlR w.heap.size w A r) (hXl : X.length ≤ 1000000) (hok : RsOk X) (hrl : r.length ≤ 1000000) (hS : RL.SS X) :
    Calls Tryz.prog 24 #[.agg #[.int .i64 N, .slice RA X.length RC], .slice A r.length C] w fun e w' => e = .returned (.tuple #[.int .i64 (RL.rank X r), .bool (decide (r ∈ X))]) ∧ Ext w w' := by
  have HC := Lib.hid (fun o1 => rwSearch_any RA A RC C X r (w.alloc o1) ((hX.ext (Nat.le_refl _) ((Ext.refl w).alloc o1)).more (by simp)) ((hr.ext (Nat.le_refl _) ((Ext.refl w).alloc o1)).more (by simp)) hXl hok hrl hS)
  clear hX hr hok hS
  generalize RL.rank X r = k at *
  generalize decide (r ∈ X) = d at *
  go_enter Tryz.func24, Tryz.ntmps24
  go_wp2_with (go_at_call 56; refine (HC.out _).mono ?_; rintro e w' ⟨rfl, hx⟩)
  go_ret2
  exact ⟨rfl, ((Ext.refl w).alloc _).trans hx⟩
end
section
open Go.RowKit Go.Sort

theorem valInfo : (Tryz.prog.info? 82).map (fun i => (i.zero, i.size, i.bytes)) = some (some (.agg #[.int .i64 0, .int .i64 0, .string ⟨#[]⟩]), 3, 32) := by kernel_rfl
theorem rowInfo : (Tryz.prog.info? 42).map (fun i => (i.zero, i.size, i.bytes)) = some (some (.slice none 0 0), 1, 24) := by kernel_rfl
theorem SlR.of_own {w : World} {base : Nat} {e : TypeId} {v : Value} {n : Nat} {x : RL.R} (h : w.ownsRow base e 3 v n (rcells x)) :
    n = x.length ∧ ∃ A c, v = .slice A x.length c ∧ x.length ≤ c ∧ c ≤ 9223372036854775807 ∧ SlR w.heap.size w A x ∧ ∀ ad, A = some ad → base ≤ ad.block := by
  have hn : n = x.length := by have := h.1; rw [rcells_length] at this; omega
  subst hn
  refine ⟨rfl, ?_⟩
  obtain ⟨A, c, e1, hc, hs⟩ := Sl.of_own_n h
  refine ⟨A, c, e1, hc, ?_, hs, ?_⟩
  · rcases h.2 with ⟨h1, h0⟩ | ⟨g, cap, cur, h1, _, _, _, hm, _⟩
    · rw [h1] at e1; injection e1 with _ _ e3; omega
    · rw [h1] at e1; injection e1 with _ _ e3; unfold maxLen at hm; omega
  · intro ad had
    subst had
    exact own_base h (k := ad.block) (by rw [e1]; rfl)

theorem app1V {w : World} {ops : Array Oper} {rest : List Oper} {o : Oper} {a : Act} {Q : Exit → Act → World → Prop} (hgd : o.guard = none) (s x : Operand)
    (ho : o.op = .call { callee := .builtin .append, args := #[s, x], argTypes := #[42, 42] })
    (base : Nat) (v : Value) (l : RL.R) (hs : a.eval s = v) (hown : w.ownsRow base 82 3 v l.length (rcells l))
    (gt : Nat) (z : RL.V) (hx : a.eval x = .slice (some ⟨gt, 0, none⟩) 1 1) (h0 : w.cell? ⟨gt, 0, none⟩ = some (.int .i64 z.kind)) (h1 : w.cell? ⟨gt, 1, none⟩ = some (.int .i64 z.int)) (h2 : w.cell? ⟨gt, 2, none⟩ = some (.string z.str))
    (hn : l.length ≤ 100000000) (hbase : base ≤ w.heap.size)
    (h : ∀ v' w', w'.ownsRow base 82 3 v' (l ++ [z]).length (rcells (l ++ [z])) → w.grownBy w' v.ownBlock → wpList Tryz.prog ops Q rest (a.put o.dst v') w') : wpList Tryz.prog ops Q (o :: rest) a w := by
  obtain ⟨i0, hi0, hz0, hz1, hz2⟩ := info_parts valInfo
  refine wpList_append_own w hgd s x 42 ho base 82 i0 _ 3 32 Tryz.underlying42 hi0 hz0 hz1 hz2 rfl (by decide) v l.length (rcells l) hs hown ⟨gt, 0, none⟩ 1 1 (vcells z) hx rfl ?_ ?_ (by simp only [maxLen]; omega) (by omega) hbase ?_
  · intro j u hu
    match j with
    | 0 => simp [vcells] at hu; subst hu; exact h0
    | 1 => simp [vcells] at hu; subst hu; exact h1
    | 2 => simp [vcells] at hu; subst hu; exact h2
    | j + 3 => simp [vcells] at hu
  · intro u hu; simp [vcells] at hu; rcases hu with rfl | rfl | rfl <;> rfl
  · intro v' w' h1 h2 _
    refine h v' w' ?_ h2
    rw [rcells_append, List.length_append]
    have : rcells [z] = vcells z := by simp [rcells]
    rw [this]
    exact h1
def OwnRs (w : World) (B : Nat) (E : TypeId) (v : Value) (X : List RL.R) : Prop :=
  ∃ hs : List Value, w.ownsRow B E 1 v X.length hs ∧ ∀ i (h : i < X.length), ∃ A' C', hs[i]? = some (.slice A' X[i].length C') ∧ X[i].length ≤ C' ∧ C' ≤ 9223372036854775807 ∧ SlR w.heap.size w A' X[i] ∧ (X[i] ≠ [] → ∀ ad, A' = some ad → v.ownBlock ≠ some ad.block)

section
variable {w w' : World} {B : Nat} {E : TypeId} {v : Value} {X : List RL.R}
theorem OwnRs.nil (w : World) (B : Nat) (E : TypeId) : OwnRs w B E (.slice none 0 0) [] := ⟨[], own_nil _ _ _ _, fun i h => absurd h (by simp)⟩
theorem OwnRs.base (h : OwnRs w B E v X) : ∀ k, v.ownBlock = some k → B ≤ k := by
  obtain ⟨hs, h1, _⟩ := h
  exact fun k hk => own_base h1 hk
theorem SlR.grown {w w' : World} {A : Option Addr} {x : RL.R} {row : Option Nat} (h : SlR w.heap.size w A x) (hg : w.grownBy w' row) (hne : x ≠ [] → ∀ ad, A = some ad → row ≠ some ad.block) : SlR w'.heap.size w' A x := by
  intro hn
  have hx : x ≠ [] := by intro e; subst e; exact hn rfl
  obtain ⟨b, o, e, hb, hc⟩ := h hn
  refine ⟨b, o, e, Nat.lt_of_lt_of_le hb hg.size, fun i u hu => ?_⟩
  exact (grown_cell hg (p := ⟨b, o + i, none⟩) hb (fun e' => hne hx _ e e'.symm)).trans (hc i u hu)
theorem OwnRs.sl (h : OwnRs w B E v X) : ∃ A C, v = .slice A X.length C ∧ X.length ≤ C ∧ C ≤ 9223372036854775807 ∧ SlRs w.heap.size w A X := by
  obtain ⟨hs, h1, h2⟩ := h
  have hl : hs.length = X.length := by have := h1.1; omega
  obtain ⟨A, c, e1, hc, e3, hsl⟩ := Sl.of_own h1
  rw [hl] at e1 hc
  refine ⟨A, c, e1, hc, ?_, ?_⟩
  · rcases h1.2 with ⟨g1, g0⟩ | ⟨g, cap, cur, g1, _, _, _, hm, _⟩
    · rw [g1] at e1; injection e1 with _ _ e3; omega
    · rw [g1] at e1; injection e1 with _ _ e3; unfold maxLen at hm; omega
  · intro hn
    obtain ⟨b, o, e, hb, hcell⟩ := hsl (by intro h0; rw [h0] at hl; exact hn (List.eq_nil_of_length_eq_zero hl.symm))
    refine ⟨b, o, e, hb, fun i hi => ?_⟩
    obtain ⟨A', C', g1, g2, g3, g4, _⟩ := h2 i hi
    exact ⟨A', C', hcell i _ g1, g2, g3, g4⟩
end
end
section
open Go.RowKit Go.Sort

def wrongF (n : Int) (x : RL.R) : Int := if (x.length : Int) ≠ n then 6 else if x.all RL.validV = true then 0 else 4
end
section
open Go.RowKit Go.Sort

theorem rlNew_ok (n : Int) (w : World) (h0 : 0 ≤ n) (h1 : n ≤ 32) : Calls Tryz.prog 47 #[.int .i64 n] w fun e w' => e = .returned (.tuple #[.agg #[.int .i64 n, .slice none 0 0], .int .i64 0]) ∧ Ext w w' := by
  have h' : ¬ n < 0 := by omega
  have h2 : ¬ 32 < n := by omega
  go_enter Tryz.func47, Tryz.ntmps47
  go_wp2
  exact bodyPost_ret (v := .tuple #[.agg #[.int .i64 n, .slice none 0 0], .int .i64 0]) (by simp [results, Tryz.results47, go_sem]) rfl ⟨rfl, (Ext.refl w).alloc _⟩

theorem rlLen_any (n : Int) (A : Option Addr) (l C : Nat) (w : World) : Calls Tryz.prog 26 #[.agg #[.int .i64 n, .slice A l C]] w fun e w' => e = .returned (.int .i64 l) ∧ Ext w w' := by
  go_enter Tryz.func26, Tryz.ntmps26
  go_wp2
  go_ret
  exact ⟨rfl, (Ext.refl w).alloc _⟩

set_option maxHeartbeats 400000 in
theorem rlAccepts_any (n : Int) (RA A : Option Addr) (l RC C : Nat) (x : RL.R) (w : World) (hx : SlR w.heap.size w A x) (hxo : ROk x) :
    Calls Tryz.prog 103 #[.agg #[.int .i64 n, .slice RA l RC], .slice A x.length C] w fun e w' => e = .returned (.int .i64 (wrongF n x)) ∧ Ext w w' := by
  have hxl := hxo.1
  by_cases hn : (x.length : Int) = n
  rotate_left
  · have hr : wrongF n x = 6 := by unfold wrongF; rw [if_pos hn]
    rw [hr]
    have hne : ((x.length : Int) != n) = true := by simpa using hn
    clear hr hn hx hxo
    go_enter Tryz.func103, Tryz.ntmps103
    go_wp2
    go_ret
    exact ⟨rfl, (Ext.refl w).alloc _⟩
  subst hn
  have HW : Hid (wrongF (x.length : Int) x = if x.all RL.validV = true then 0 else 4) := by show _ = _; unfold wrongF; rw [if_neg (by simp)]
  have HC := Lib.hid (fun o => rwValid_any A C x (w.alloc o) (hx.alloc1 o) hxl hxo.2)
  clear hx hxo
  generalize wrongF (x.length : Int) x = q at *
  cases hv : x.all RL.validV
  · rw [hv] at HC HW
    clear hv
    go_enter Tryz.func103, Tryz.ntmps103
    go_wp2_with (go_at_call 55; refine (HC.out _).mono ?_; rintro e w' ⟨rfl, hx⟩)
    go_ret
    exact ⟨ret_int HW.out.symm, ((Ext.refl w).alloc _).trans hx⟩
  · rw [hv] at HC HW
    clear hv
    go_enter Tryz.func103, Tryz.ntmps103
    go_wp2_with (go_at_call 55; refine (HC.out _).mono ?_; rintro e w' ⟨rfl, hx⟩)
    go_ret
    exact ⟨ret_int HW.out.symm, ((Ext.refl w).alloc _).trans hx⟩

theorem cloneRow_any (A : Option Addr) (C : Nat) (x : RL.R) (w : World) (hx : SlR w.heap.size w A x) (hxl : x.length ≤ 1000000) :
    Calls Tryz.prog 78 #[.slice A x.length C] w fun e w' => ∃ v, e = .returned v ∧ w'.ownsRow w.heap.size 82 3 v x.length (rcells x) ∧ Below w.heap.size w w' := by
  rcases A with _ | ad
  · have hz : x = [] := by
      cases x with
      | nil => rfl
      | cons z zs => obtain ⟨b, o, e, _⟩ := hx (by simp [rcells, vcells]); cases e
    subst hz
    exact Calls.mono (AnyE.slices_Clone_nil lCloneRow 0 C w) fun e w' ⟨h1, h2⟩ => ⟨_, h1, by subst h2; exact own_nil _ _ _ _, by subst h2; exact Below.refl _ _⟩
  · obtain ⟨i0, hi0, hz0, hz1, hz2⟩ := info_parts valInfo
    by_cases hx0 : x = []
    · subst hx0
      have hnil := fun w => Lib.run_eql_slice_nil (P := Tryz.prog) w 42 82 (some ad) 0 C 0 0 Tryz.underlying42
      have HO : Hid ((w.alloc (.cells #[] 82)).ownsRow w.heap.size 82 3 (.slice (some ⟨w.heap.size, 0, none⟩) 0 0) 0 []) := ⟨rfl, .inr ⟨w.heap.size, 0, #[], rfl, Nat.le_refl _, heap_alloc_new w _, Nat.le_refl _, by simp [maxLen], rfl, rfl⟩⟩
      clear hx hxl
      simp only [List.length_nil] at *
      go_enter Tryz.func78, Tryz.ntmps78
      go_wp2_with (at_builtin; refine wpList_append_own _ rfl (.tmp 5) (.tmp 6) 42 rfl w.heap.size 82 i0 _ 3 32 Tryz.underlying42 hi0 hz0 hz1 hz2 rfl (by decide) (.slice (some ⟨w.heap.size, 0, none⟩) 0 0) 0 [] rfl HO.out ad 0 C [] rfl (by simp) (fun j u hu => by simp at hu) (by simp) (by simp only [maxLen]; omega) (by omega) (by simp) ?_; intro v' w' hown' hg' hn'; have HO' := Lib.hid hown'; have HG := Lib.hid hg'; clear hown' hg' hn')
      go_ret
      refine ⟨_, rfl, HO'.out, ?_⟩
      refine ((Below.refl _ _).alloc (Nat.le_refl _) _).grown HG.out (by simp) ?_
      intro k hk
      simp [Value.ownBlock] at hk
      omega
    · obtain ⟨b, o, e, hb, hc⟩ := hx (by intro h0; have := congrArg List.length h0; rw [rcells_length] at this; exact hx0 (List.eq_nil_of_length_eq_zero (by simp only [List.length_nil] at this; omega)))
      injection e with e
      subst e
      have h := AnyE.slices_Clone lCloneRow i0 _ 3 32 hi0 hz0 hz1 hz2 rfl (by decide) Tryz.sizeOf82 b o x.length C (rcells x) w (rcells_length x) (by simp only [maxLen]; omega) (by omega) hc (rcells_one x)
      exact Calls.mono h fun e w' ⟨v, h1, h2, _, h4⟩ => ⟨v, h1, h2, h4⟩

theorem cloneRows_any (A : Option Addr) (C : Nat) (X : List RL.R) (w : World) (hX : SlRs w.heap.size w A X) (hXl : X.length ≤ 1000000) :
    Calls Tryz.prog 111 #[.slice A X.length C] w fun e w' => ∃ v, e = .returned v ∧ OwnRs w' w.heap.size 42 v X ∧ (∃ hs : List Value, w'.ownsRow w.heap.size 42 1 v X.length hs ∧ ∀ i (h : i < X.length), ∃ A' C', hs[i]? = some (.slice A' X[i].length C') ∧ X[i].length ≤ C' ∧ C' ≤ 9223372036854775807 ∧ SlR w.heap.size w A' X[i]) ∧ Below w.heap.size w w' := by
  have fin : ∀ (v : Value) (w' : World) (hs : List Value), w'.ownsRow w.heap.size 42 1 v X.length hs → (∀ i (h : i < X.length), ∃ A' C', hs[i]? = some (.slice A' X[i].length C') ∧ X[i].length ≤ C' ∧ C' ≤ 9223372036854775807 ∧ SlR w.heap.size w A' X[i]) → Below w.heap.size w w' → OwnRs w' w.heap.size 42 v X := fun v w' hs h1 h2 h3 => by
    refine ⟨hs, h1, fun i hi => ?_⟩
    obtain ⟨A', C', g1, g2, g3, g4⟩ := h2 i hi
    refine ⟨A', C', g1, g2, g3, g4.upB h3, fun hne ad e e2 => ?_⟩
    obtain ⟨b, o, e', hb, _⟩ := g4 (by
      intro h0
      have := congrArg List.length h0
      rw [rcells_length] at this
      exact hne (List.eq_nil_of_length_eq_zero (by simp only [List.length_nil] at this; omega)))
    rw [e] at e'
    injection e' with e'
    have := own_base h1 e2
    rw [e'] at this
    simp only at this
    omega
  rcases A with _ | ad
  · have hz : X = [] := by
      cases X with
      | nil => rfl
      | cons z zs => obtain ⟨b, o, e, _⟩ := hX (by simp); cases e
    subst hz
    exact Calls.mono (AnyE.slices_Clone_nil lCloneRows 0 C w) fun e w' ⟨h1, h2⟩ => ⟨_, h1, by subst h2; exact OwnRs.nil _ _ _, ⟨[], by subst h2; exact own_nil _ _ _ _, fun i h => absurd h (by simp)⟩, by subst h2; exact Below.refl _ _⟩
  · obtain ⟨i0, hi0, hz0, hz1, hz2⟩ := info_parts rowInfo
    by_cases hx0 : X = []
    · subst hx0
      have hnil := fun w => Lib.run_eql_slice_nil (P := Tryz.prog) w 38 42 (some ad) 0 C 0 0 Tryz.underlying38
      have HO : Hid ((w.alloc (.cells #[] 42)).ownsRow w.heap.size 42 1 (.slice (some ⟨w.heap.size, 0, none⟩) 0 0) 0 []) := ⟨rfl, .inr ⟨w.heap.size, 0, #[], rfl, Nat.le_refl _, heap_alloc_new w _, Nat.le_refl _, by simp [maxLen], rfl, rfl⟩⟩
      have FIN := Lib.hid fin
      clear hX hXl fin
      simp only [List.length_nil] at *
      go_enter Tryz.func111, Tryz.ntmps111
      go_wp2_with (at_builtin; refine wpList_append_own _ rfl (.tmp 5) (.tmp 6) 38 rfl w.heap.size 42 i0 _ 1 24 Tryz.underlying38 hi0 hz0 hz1 hz2 rfl (by decide) (.slice (some ⟨w.heap.size, 0, none⟩) 0 0) 0 [] rfl HO.out ad 0 C [] rfl (by simp) (fun j u hu => by simp at hu) (by simp) (by simp only [maxLen]; omega) (by omega) (by simp) ?_; intro v' w' hown' hg' hn'; have HO' := Lib.hid hown'; have HG := Lib.hid hg'; clear hown' hg' hn')
      go_ret
      have hbel : Below w.heap.size w w' := ((Below.refl _ _).alloc (Nat.le_refl _) _).grown HG.out (by simp) (fun k hk => by simp [Value.ownBlock] at hk; omega)
      exact ⟨_, rfl, FIN.out _ _ _ HO'.out (fun i h => absurd h (by simp)) hbel, ⟨_, HO'.out, fun i h => absurd h (by simp)⟩, hbel⟩
    · obtain ⟨b, o, e, hb, hc⟩ := hX hx0
      injection e with e
      subst e
      -- the headers
      have hh : ∃ hs : List Value, hs.length = X.length ∧ (∀ u ∈ hs, u.oneCell' = true) ∧ (∀ j u, hs[j]? = some u → w.cell? ⟨b, o + j, none⟩ = some u) ∧ ∀ i (h : i < X.length), ∃ A' C', hs[i]? = some (.slice A' X[i].length C') ∧ X[i].length ≤ C' ∧ C' ≤ 9223372036854775807 ∧ SlR w.heap.size w A' X[i] := by
        refine ⟨(List.range X.length).map fun i => (w.cell? ⟨b, o + i, none⟩).getD (.slice none 0 0), by simp, ?_, ?_, ?_⟩
        · intro u hu
          simp at hu
          obtain ⟨i, hi, rfl⟩ := hu
          obtain ⟨A', C', h1, _⟩ := hc i hi
          rw [h1]; rfl
        · intro j u hu
          obtain ⟨hj, e⟩ := List.getElem?_eq_some_iff.1 hu
          simp at hj
          simp at e
          obtain ⟨A', C', h1, _⟩ := hc j hj
          rw [h1] at e ⊢
          rw [← e]; rfl
        · intro i hi
          obtain ⟨A', C', h1, h2, h3, h4⟩ := hc i hi
          refine ⟨A', C', ?_, h2, h3, h4⟩
          rw [List.getElem?_eq_getElem (by simpa using hi)]
          simp [h1]
      obtain ⟨hs, hl, ho, hcell, hrow⟩ := hh
      have h := AnyE.slices_Clone lCloneRows i0 _ 1 24 hi0 hz0 hz1 hz2 rfl (by decide) Tryz.sizeOf42 b o X.length C hs w (by omega) (by simp only [maxLen]; omega) (by omega) hcell ho
      exact Calls.mono h fun e w' ⟨v, h1, h2, _, h4⟩ => ⟨v, h1, fin v w' hs h2 hrow h4, ⟨hs, h2, hrow⟩, h4⟩
end
section
open Go.RowKit Go.Sort

def MadeRs (w : World) (g : Nat) (E : TypeId) (X : List RL.R) (k B : Nat) : Prop :=
  ∃ hs : List Value, Row w g E hs ∧ hs.length = X.length ∧ B ≤ g ∧ ∀ i (h : i < X.length), i < k → ∃ A' C', hs[i]? = some (.slice A' X[i].length C') ∧ X[i].length ≤ C' ∧ C' ≤ 9223372036854775807 ∧ SlR w.heap.size w A' X[i] ∧ (X[i] ≠ [] → ∀ ad, A' = some ad → ad.block ≠ g ∧ B ≤ ad.block ∧ ∀ o, w.frozen? ⟨ad.block, o, none⟩ = false)
theorem SlR.ltB {B : Nat} {w : World} {A : Option Addr} {y : RL.R} (h : SlR B w A y) : y ≠ [] → ∀ ad, A = some ad → ad.block < B := fun hy ad e => by
  obtain ⟨b, o, e', hb, _⟩ := h (fun h0 => by
    have := congrArg List.length h0
    rw [rcells_length] at this
    exact hy (List.eq_nil_of_length_eq_zero (by simp only [List.length_nil] at this; omega)))
  rw [e] at e'
  injection e' with e'
  rw [e']
  exact hb
theorem own_frozen {w : World} {base : Nat} {e : TypeId} {size : Nat} {A : Option Addr} {n C : Nat} {xs : List Value} (h : w.ownsRow base e size (.slice A n C) n xs) : ∀ ad, A = some ad → ∀ o, w.frozen? ⟨ad.block, o, none⟩ = false := fun ad e2 o => by
  subst e2
  rcases h.2 with ⟨h1, _⟩ | ⟨g, cap, cur, h1, _, hh, _⟩
  · injection h1 with h1; cases h1
  · injection h1 with h1
    injection h1 with h1
    subst h1
    simp [World.frozen?, hh]

section
variable {w w' : World} {g : Nat} {E : TypeId} {X : List RL.R} {k B : Nat}
theorem MadeRs.keep (h : MadeRs w g E X k B) (hb : Below w.heap.size w w') : MadeRs w' g E X k B := by
  obtain ⟨hs, h1, h2, h3, h4⟩ := h
  refine ⟨hs, h1.below hb h1.lt, h2, h3, fun i hi hk => ?_⟩
  obtain ⟨A', C', g1, g2, g3, g4, g5⟩ := h4 i hi hk
  exact ⟨A', C', g1, g2, g3, g4.upB hb, fun hy ad e => ⟨(g5 hy ad e).1, (g5 hy ad e).2.1, fun o => (hb.frozen (p := ⟨ad.block, o, none⟩) (g4.ltB hy ad e)).trans ((g5 hy ad e).2.2 o)⟩⟩
theorem MadeRs.lt (h : MadeRs w g E X k B) : g < w.heap.size := by obtain ⟨hs, h1, _⟩ := h; exact h1.lt
theorem MadeRs.cell (h : MadeRs w g E X k B) {i : Nat} (hi : i < X.length) : ∃ v, w.cell? ⟨g, i, none⟩ = some v := by
  obtain ⟨hs, h1, h2, _⟩ := h
  exact ⟨_, h1.cell_ (by omega)⟩
theorem MadeRs.frozen (h : MadeRs w g E X k B) (i : Nat) : w.frozen? ⟨g, i, none⟩ = false := by
  obtain ⟨hs, h1, _⟩ := h
  exact h1.frozen i
theorem SlR.far {w : World} {A : Option Addr} {x : RL.R} (h : SlR w.heap.size w A x) {p : Addr} (u : Value) (hne : x ≠ [] → ∀ ad, A = some ad → ad.block ≠ p.block) : SlR (w.setCell p u).heap.size (w.setCell p u) A x := by
  intro hn
  have hx : x ≠ [] := by intro e; subst e; exact hn rfl
  obtain ⟨b, o, e, hb, hc⟩ := h hn
  refine ⟨b, o, e, by simpa using hb, fun i u' hu => far_cell (q := ⟨b, o + i, none⟩) (fun e2 => hne hx _ e e2.symm) (hc i u' hu)⟩
theorem MadeRs.set (h : MadeRs w g E X k B) (hk : k < X.length) {A' : Option Addr} {C' : Nat} (hc : X[k].length ≤ C') (hm : C' ≤ 9223372036854775807) (hr : SlR w.heap.size w A' X[k]) (hne : X[k] ≠ [] → ∀ ad, A' = some ad → ad.block ≠ g ∧ B ≤ ad.block ∧ ∀ o, w.frozen? ⟨ad.block, o, none⟩ = false) :
    MadeRs (w.setCell ⟨g, k, none⟩ (.slice A' X[k].length C')) g E X (k + 1) B := by
  obtain ⟨hs, h1, h2, h3, h4⟩ := h
  refine ⟨hs.set k (.slice A' X[k].length C'), h1.set k _, by simpa using h2, h3, fun i hi hik => ?_⟩
  by_cases he : i = k
  · subst he
    exact ⟨A', C', by rw [List.getElem?_set_self (by omega)], hc, hm, hr.far _ (fun hy ad e => (hne hy ad e).1), fun hy ad e => ⟨(hne hy ad e).1, (hne hy ad e).2.1, fun o => by rw [World.frozen?_setCell]; exact (hne hy ad e).2.2 o⟩⟩
  · obtain ⟨A2, C2, g1, g2, g3, g4, g5⟩ := h4 i hi (by omega)
    exact ⟨A2, C2, by rw [List.getElem?_set_ne (fun e => he e.symm)]; exact g1, g2, g3, g4.far _ (fun hy ad e => (g5 hy ad e).1), fun hy ad e => ⟨(g5 hy ad e).1, (g5 hy ad e).2.1, fun o => by rw [World.frozen?_setCell]; exact (g5 hy ad e).2.2 o⟩⟩
end

theorem makeRows (n : Nat) (hn : n ≤ 1000000) (w : World) : (Instr.makeSlice 38 (.int .i64 (n : Int)) (.int .i64 (n : Int))).run Tryz.prog w = .ok (.slice (some ⟨w.heap.size, 0, none⟩) n n) (w.alloc (.cells (zerosA (.slice none 0 0) n) 42)) := by
  obtain ⟨i0, hi0, hz0, hz1, hz2⟩ := info_parts rowInfo
  have := run_make (P := Tryz.prog) w 38 42 i0 _ Tryz.underlying38 hi0 hz0 .i64 .i64 n n (by omega) (by omega) (by rw [hz2]; omega) (by omega)
  rw [this, hz1]
  simp only [Int.toNat_natCast]
  rw [zeros_made _ _ rfl]

theorem MadeRs.start (w : World) (E : TypeId) (X : List RL.R) : MadeRs (w.alloc (.cells (zerosA (.slice none 0 0) X.length) E)) w.heap.size E X 0 w.heap.size :=
  ⟨_, Row.zeros w E _ X.length, by simp, Nat.le_refl _, fun i _ h => absurd h (by omega)⟩

set_option maxHeartbeats 1000000 in
theorem rlRows_any (n : Int) (RA : Option Addr) (RC : Nat) (X : List RL.R) (w : World) (hX : SlRs w.heap.size w RA X) (hXo : RsOk X) (hl : X.length ≤ 1000000) :
    Calls Tryz.prog 46 #[.agg #[.int .i64 n, .slice RA X.length RC]] w fun e w' => ∃ g, e = .returned (.slice (some ⟨g, 0, none⟩) X.length X.length) ∧ MadeRs w' g 42 X X.length w.heap.size ∧ Below w.heap.size w w' := by
  have HX := Lib.hid hX
  have HXO := Lib.hid hXo
  have hmk := makeRows X.length hl
  clear hX hXo
  go_enter Tryz.func46, Tryz.ntmps46
  go_wp2
  clear hmk
  have HM0 := Lib.hid (MadeRs.start (w.alloc (.cells #[.int .i64 n, .slice RA X.length RC] 56)) 42 X)
  have c0 : ((w.alloc (.cells #[.int .i64 n, .slice RA X.length RC] 56)).alloc (.cells (zerosA (.slice none 0 0) X.length) 42)).cell? ⟨w.heap.size, 1, none⟩ = some (.slice RA X.length RC) := by go_simp
  have C0 := Lib.hid c0
  clear c0
  go_loopw [11] (fun i wr => ∃ k : Nat, k ≤ X.length ∧ i = .int .i64 k ∧ MadeRs wr (w.heap.size + 1) 42 X k (w.heap.size + 1) ∧ wr.cell? ⟨w.heap.size, 1, none⟩ = some (.slice RA X.length RC) ∧ Below w.heap.size w wr) (fun i _ => X.length - (intOf i).toNat)
  case atStart => exact ⟨0, Nat.zero_le _, rfl, by simpa using HM0.out, C0.out, ((Below.refl _ _).alloc (Nat.le_refl _) _).alloc (by simp) _⟩
  case round =>
    obtain ⟨k, hka, rfl, hM, hc0, hbel⟩ := hrel
    have HM := Lib.hid hM
    have HB := Lib.hid hbel
    have hlt := hM.lt
    clear hM HM0 C0
    by_cases h1 : k < X.length
    · obtain ⟨b, o, A1, C1, rfl, hb, c1, -, -, s1⟩ := slRs_at HX.out h1
      have d1 := (hbel.cell (p := ⟨b, o + k, none⟩) hb).trans c1
      have HC := Lib.hid (cloneRow_any A1 C1 X[k] wr ((s1.below hbel (Nat.le_refl _)).more hbel.size) (HXO.out.at_ h1).1)
      clear c1 s1 hbel
      have HXK := Lib.hid (show X[k] = X[k] from rfl)
      generalize hxl : X[k].length = xl at d1
      have HXL := Lib.hid hxl
      rw [hxl] at HC
      clear hxl
      go_wp2_with fail
      refine HC.out.mono ?_
      rintro e w1 ⟨v1, rfl, hown1, hb1⟩
      rw [← HXL.out] at hown1
      obtain ⟨-, A2, C2, rfl, hc2, hm2, hs2, hfr⟩ := SlR.of_own hown1
      have HM1 := Lib.hid (HM.out.keep hb1)
      obtain ⟨u, hu⟩ := HM1.out.cell h1
      have hfz := HM1.out.frozen k
      have hz1 := hb1.size
      have hc1 := (hb1.cell (p := ⟨w.heap.size, 1, none⟩) (show w.heap.size < wr.heap.size by omega)).trans hc0
      have HSET := Lib.hid (HM1.out.set h1 hc2 hm2 hs2 (fun _ ad e => ⟨by have := hfr ad e; omega, by have := hfr ad e; omega, own_frozen hown1 ad e⟩))
      have HB1 := Lib.hid ((Below.then HB.out hb1 (by omega)).setCell (p := ⟨w.heap.size + 1, k, none⟩) (show w.heap.size ≤ w.heap.size + 1 by omega) (.slice A2 X[k].length C2))
      rw [HXL.out] at HSET HB1 ⊢
      clear hown1 hb1 hs2 hfr d1 HC hc0
      go_wp2
      go_roundw
      case rel => exact ⟨k + 1, by omega, by go_num, HSET.out, far_cell (by simp) hc1, HB1.out⟩
      case measure => simp [intOf]; omega
    · obtain rfl : k = X.length := by omega
      go_wp2
      go_ret
      refine ⟨_, rfl, ?_, hbel⟩
      obtain ⟨hs, g1, g2, g3, g4⟩ := HM.out
      refine ⟨hs, g1, g2, by omega, fun i hi hk => ?_⟩
      obtain ⟨A', C', k1, k2, k3, k4, k5⟩ := g4 i hi hk
      exact ⟨A', C', k1, k2, k3, k4, fun hy ad e => ⟨(k5 hy ad e).1, by have := (k5 hy ad e).2.1; omega, (k5 hy ad e).2.2⟩⟩
end
end Go.Proofs.YtdadchpiibipoaaGreatDoor
section
namespace Go.Proofs
open Go.Shelf
def YtdadchpiibipoaaGreatDoor.lSortRows_ren : Go.Shelf.Ren := ⟨fun | 6 => 135 | 15 => 119 | 14 => 165 | 28 => 151 | 29 => 138 | 20 => 180 | 21 => 181 | 22 => 182 | 23 => 183 | 24 => 184 | 25 => 185 | 26 => 186 | 27 => 187 | 46 => 194 | 47 => 169 | 48 => 170 | 49 => 195 | 50 => 196 | 57 => 201 | n => n, fun | 22 => 38 | 24 => 42 | 25 => 148 | 3 => 3 | 39 => 154 | 0 => 0 | 53 => 187 | 55 => 167 | 4 => 4 | 46 => 191 | 45 => 190 | 50 => 59 | 5 => 5 | 9 => 9 | 66 => 209 | 70 => 213 | 76 => 223 | 77 => 224 | n => n, fun | n => n⟩
theorem YtdadchpiibipoaaGreatDoor.lSortRows : Go.Proofs.SlLaysF.n6 Tryz.prog YtdadchpiibipoaaGreatDoor.lSortRows_ren := {
  mixed := by kernel_rfl
  f6 := ⟨Tryz.f135.name, by decide, Tryz.func135.trans (congrArg some (by kernel_rfl))⟩
  f14 := ⟨Tryz.f165.name, by decide, Tryz.func165.trans (congrArg some (by kernel_rfl))⟩
  f15 := Tryz.func119.trans (congrArg some (by kernel_rfl))
  f20 := ⟨Tryz.f180.name, by decide, Tryz.func180.trans (congrArg some (by kernel_rfl))⟩
  f21 := ⟨Tryz.f181.name, by decide, Tryz.func181.trans (congrArg some (by kernel_rfl))⟩
  f22 := ⟨Tryz.f182.name, by decide, Tryz.func182.trans (congrArg some (by kernel_rfl))⟩
  f23 := ⟨Tryz.f183.name, by decide, Tryz.func183.trans (congrArg some (by kernel_rfl))⟩
  f24 := ⟨Tryz.f184.name, by decide, Tryz.func184.trans (congrArg some (by kernel_rfl))⟩
  f25 := ⟨Tryz.f185.name, by decide, Tryz.func185.trans (congrArg some (by kernel_rfl))⟩
  f26 := ⟨Tryz.f186.name, by decide, Tryz.func186.trans (congrArg some (by kernel_rfl))⟩
  f27 := ⟨Tryz.f187.name, by decide, Tryz.func187.trans (congrArg some (by kernel_rfl))⟩
  f28 := Tryz.func151.trans (congrArg some (by kernel_rfl))
  f29 := Tryz.func138.trans (congrArg some (by kernel_rfl))
  f46 := ⟨Tryz.f194.name, by decide, Tryz.func194.trans (congrArg some (by kernel_rfl))⟩
  f47 := Tryz.func169.trans (congrArg some (by kernel_rfl))
  f48 := Tryz.func170.trans (congrArg some (by kernel_rfl))
  f49 := ⟨Tryz.f195.name, by decide, Tryz.func195.trans (congrArg some (by kernel_rfl))⟩
  f50 := ⟨Tryz.f196.name, by decide, Tryz.func196.trans (congrArg some (by kernel_rfl))⟩
  f57 := ⟨Tryz.f201.name, by decide, Tryz.func201.trans (congrArg some (by kernel_rfl))⟩
  t0 := Tryz.underlying0
  a0 := Tryz.isAgg0
  z0 := Tryz.sizeOf0
  v0 := Tryz.zeroValue0
  t3 := Tryz.underlying3
  a3 := Tryz.isAgg3
  z3 := Tryz.sizeOf3
  v3 := Tryz.zeroValue3
  t4 := Tryz.underlying4
  a4 := Tryz.isAgg4
  z4 := Tryz.sizeOf4
  v4 := Tryz.zeroValue4
  t5 := Tryz.underlying5
  a5 := Tryz.isAgg5
  z5 := Tryz.sizeOf5
  v5 := Tryz.zeroValue5
  t9 := Tryz.underlying9
  a9 := Tryz.isAgg9
  z9 := Tryz.sizeOf9
  v9 := Tryz.zeroValue9
  t22 := Tryz.underlying38
  a22 := Tryz.isAgg38
  z22 := Tryz.sizeOf38
  v22 := Tryz.zeroValue38
  a24 := Tryz.isAgg42
  z24 := Tryz.sizeOf42
  t25 := Tryz.underlying148
  a25 := Tryz.isAgg148
  z25 := Tryz.sizeOf148
  v25 := Tryz.zeroValue148
  t39 := Tryz.underlying154
  a39 := Tryz.isAgg154
  z39 := Tryz.sizeOf154
  v39 := Tryz.zeroValue154
  t45 := Tryz.underlying190
  a45 := Tryz.isAgg190
  z45 := Tryz.sizeOf190
  v45 := Tryz.zeroValue190
  t46 := Tryz.underlying191
  a46 := Tryz.isAgg191
  z46 := Tryz.sizeOf191
  v46 := Tryz.zeroValue191
  t50 := Tryz.underlying59
  a50 := Tryz.isAgg59
  z50 := Tryz.sizeOf59
  v50 := Tryz.zeroValue59
  t53 := Tryz.underlying187
  a53 := Tryz.isAgg187
  z53 := Tryz.sizeOf187
  v53 := Tryz.zeroValue187
  t55 := Tryz.underlying167
  a55 := Tryz.isAgg167
  z55 := Tryz.sizeOf167
  v55 := Tryz.zeroValue167
  t66 := Tryz.underlying209
  a66 := Tryz.isAgg209
  z66 := Tryz.sizeOf209
  v66 := Tryz.zeroValue209
  t70 := Tryz.underlying213
  a70 := Tryz.isAgg213
  z70 := Tryz.sizeOf213
  v70 := Tryz.zeroValue213
  t76 := Tryz.underlying223
  a76 := Tryz.isAgg223
  z76 := Tryz.sizeOf223
  v76 := Tryz.zeroValue223
  t77 := Tryz.underlying224
  a77 := Tryz.isAgg224
  z77 := Tryz.sizeOf224
  v77 := Tryz.zeroValue224 }
end Go.Proofs
end
namespace Go.Proofs.YtdadchpiibipoaaGreatDoor
section
open Go.RowKit Go.Sort Go.Shelf

structure El (w : World) (g : Nat) where
  val : Value
  row : RL.R
  ok : ∃ A' C', val = .slice A' row.length C' ∧ row.length ≤ C' ∧ C' ≤ 9223372036854775807 ∧ SlR w.heap.size w A' row ∧ ROk row ∧ (row ≠ [] → ∀ ad, A' = some ad → ad.block ≠ g)
instance {w : World} {g : Nat} : Inhabited (El w g) := ⟨⟨.slice none 0 0, [], none, 0, rfl, Nat.le_refl _, by omega, SlR.nil, ⟨by simp, fun v hv => by simp at hv⟩, fun h => absurd rfl h⟩⟩
def El.enc {w : World} {g : Nat} (e : El w g) : Value := e.val
theorem El.one {w : World} {g : Nat} : OneCell (El.enc (w := w) (g := g)) := fun e => by
  obtain ⟨v, r, A', C', rfl, _⟩ := e
  rfl

structure HB (w0 wr : World) (g off : Nat) (d : Array (El w0 g)) : Prop where
  grown : w0.grownBy wr (some g)
  holds : Holds El.enc wr g off d
  lt : g < w0.heap.size

section
variable {w0 wr wr' : World} {g off : Nat} {d : Array (El w0 g)}
theorem El.row_at (e : El w0 g) (hg : w0.grownBy wr (some g)) : ∃ A' C', e.enc = .slice A' e.row.length C' ∧ e.row.length ≤ C' ∧ C' ≤ 9223372036854775807 ∧ SlR wr.heap.size wr A' e.row ∧ ROk e.row ∧ (e.row ≠ [] → ∀ ad, A' = some ad → ad.block ≠ g) := by
  obtain ⟨v, r, A', C', rfl, h2, h3, h4, h5, h6⟩ := e
  exact ⟨A', C', rfl, h2, h3, h4.grown hg (fun hy ad e e2 => h6 hy ad e (by injection e2 with e2; exact e2.symm)), h5, h6⟩
theorem HB.lt' (h : HB w0 wr g off d) : g < wr.heap.size := Nat.lt_of_lt_of_le h.lt h.grown.size
theorem HB.ext (h : HB w0 wr g off d) (he : Ext wr wr') : HB w0 wr' g off d := by
  have hb := he.below
  refine ⟨⟨hb.os.trans h.grown.os, hb.tape.trans h.grown.tape, hb.output.trans h.grown.output, Nat.le_trans h.grown.size hb.size, fun k hk hne => (hb.block k (Nat.lt_of_lt_of_le hk h.grown.size)).trans (h.grown.block k hk hne)⟩, fun j hj => ?_, h.lt⟩
  exact ⟨(he.cell h.lt').trans (h.holds j hj).1, (he.frozen h.lt').trans (h.holds j hj).2⟩
theorem HB.sortW (h : HB w0 wr g off d) (m : Nat) (dk : Array (El w0 g)) (os : Array Obj) (hs : dk.size = d.size) : HB w0 (sortWorld El.enc wr g off m dk os) g off dk := by
  have hg : wr.grownBy (sortWorld El.enc wr g off m dk os) (some g) := by
    refine ⟨rfl, rfl, rfl, by simp [sortWorld], fun k hk hne => ?_⟩
    unfold sortWorld
    rw [heap_grow_old _ _ (by simpa using hk)]
    have : g ≠ k := fun e => hne (by rw [e])
    simp [putRow, mapBlock, Sort.ahead, Array.getElem?_modify, this]
  refine ⟨⟨hg.os.trans h.grown.os, hg.tape.trans h.grown.tape, hg.output.trans h.grown.output, Nat.le_trans h.grown.size hg.size, fun k hk hne => (hg.block k (Nat.lt_of_lt_of_le hk h.grown.size) hne).trans (h.grown.block k hk hne)⟩, ?_, h.lt⟩
  have h1 := holds_putRow El.enc (Sort.ahead wr m) g off d dk (holds_ahead El.enc wr m g off d h.holds) hs
  intro j hj
  unfold sortWorld
  rw [cell?_grow _ _ _ (by simpa using h.lt'), frozen?_grow _ _ _ (by simpa using h.lt')]
  exact h1 j hj
theorem HB.set (h : HB w0 wr g off d) {i : Nat} (hi : i < d.size) (e : El w0 g) : HB w0 (wr.setCell ⟨g, off + i, none⟩ e.enc) g off (d.setIfInBounds i e) := by
  refine ⟨⟨h.grown.os, h.grown.tape, h.grown.output, by simpa using h.grown.size, fun k hk hne => ?_⟩, fun j hj => ?_, h.lt⟩
  · rw [Below.heap_setCell _ _ _ _ (fun e2 => hne (by rw [e2]))]
    exact h.grown.block k hk hne
  · simp only [Array.size_setIfInBounds] at hj
    refine ⟨?_, ?_⟩
    · by_cases e2 : j = i
      · subst e2
        rw [World.cell?_setCell_same _ _ _ (h.holds j hj).1, getElem!_set_same d j e hj]
      · rw [World.cell?_setCell_other _ _ _ _ (by intro e3; simp only [Addr.mk.injEq] at e3; omega), getElem!_set_other d i j e e2]
        exact (h.holds j hj).1
    · rw [World.frozen?_setCell]
      exact (h.holds j hj).2
theorem El.swo : SWO (ltOf fun a b : El w0 g => RL.cmpR a.row b.row) where
  irrefl x := by simp [ltOf, RL.tot_cmpR.self]
  trans x y z := by simp only [ltOf, decide_eq_true_eq]; exact RL.tot_cmpR.tr _ _ _
  ntrans x y z := by
    simp only [ltOf, decide_eq_false_iff_not, Int.not_lt]
    intro h1 h2
    have a1 : RL.cmpR y.row x.row ≤ 0 := by rw [RL.tot_cmpR.sw x.row y.row]; omega
    have a2 : RL.cmpR z.row y.row ≤ 0 := by rw [RL.tot_cmpR.sw y.row z.row]; omega
    have := RL.tot_cmpR.le_trans a2 a1
    rw [RL.tot_cmpR.sw z.row x.row]
    omega
theorem HB.cmp (h : HB w0 wr g off d) : CmpLays1 Tryz.prog 93 #[] El.enc (fun a b : El w0 g => RL.cmpR a.row b.row) g off d.size wr := by
  intro m os dk hs x y
  have hW := h.sortW m dk os hs
  obtain ⟨A1, C1, e1, _, _, s1, o1, _⟩ := x.row_at hW.grown
  obtain ⟨A2, C2, e2, _, _, s2, o2, _⟩ := y.row_at hW.grown
  have hc := rwCompare_any A1 A2 C1 C2 x.row y.row (sortWorld El.enc wr g off m dk os) s1 s2 o1.1 o2.1
  rw [← e1, ← e2] at hc
  exact hc
end

def Asc (X : List RL.R) : Prop := X.Pairwise fun a b => RL.cmpR a b ≤ 0

theorem isSortedRows_any {w0 wr : World} {g off : Nat} {d : Array (El w0 g)} (cap : Nat) (h : HB w0 wr g off d) (hsz : d.size ≤ 1000000) :
    Calls Tryz.prog 134 #[.slice (some ⟨g, off, none⟩) d.size cap, .func (.func 93) #[] #[]] wr fun e w' => ∃ c, e = .returned (.bool c) ∧ (c = true → Asc (d.toList.map El.row)) ∧ HB w0 w' g off d := by
  have hc := Any.slices_IsSortedFunc lIsSorted El.enc El.one (fun a b : El w0 g => RL.cmpR a.row b.row) 93 #[] g off cap d wr (enters_of Tryz.func93 (by kernel_rfl) rfl) h.cmp h.holds h.lt' (by omega)
  refine Calls.mono hc fun e w' ⟨h1, n, os, h2⟩ => ⟨_, h1, fun hd => ?_, by rw [h2]; exact h.sortW n d os rfl⟩
  rw [Lib.downOK_iff] at hd
  have step : ∀ i, i + 1 < d.size → RL.cmpR (d[i]!).row (d[i + 1]!).row ≤ 0 := fun i hi => by
    have := hd i (by omega)
    simp only [ltOf, decide_eq_false_iff_not, Int.not_lt] at this
    rw [RL.tot_cmpR.sw (d[i + 1]!).row]
    omega
  have all : ∀ k i, i + k < d.size → RL.cmpR (d[i]!).row (d[i + k]!).row ≤ 0 := fun k => by
    induction k with
    | zero => intro i _; rw [Nat.add_zero, RL.tot_cmpR.self]; omega
    | succ k ih => intro i hi; exact RL.tot_cmpR.le_trans (ih i (by omega)) (step (i + k) (by omega))
  unfold Asc
  rw [List.pairwise_map, List.pairwise_iff_getElem]
  intro i j hi hj hij
  have := all (j - i) i (by simp at hj; omega)
  rw [show i + (j - i) = j by omega] at this
  simp only [Array.length_toList] at hi hj
  simpa [hi, hj] using this

theorem sortRows_any {w0 wr : World} {g off : Nat} {d : Array (El w0 g)} (cap : Nat) (h : HB w0 wr g off d) (hsz : d.size ≤ 1000000) :
    Calls Tryz.prog 135 #[.slice (some ⟨g, off, none⟩) d.size cap, .func (.func 93) #[] #[]] wr fun e w' => ∃ d' : Array (El w0 g), e = .returned (.tuple #[]) ∧ d'.size = d.size ∧ (d'.toList.map El.row).Perm (d.toList.map El.row) ∧ Asc (d'.toList.map El.row) ∧ HB w0 w' g off d' := by
  have hc := Any.slices_SortFunc lSortRows El.enc El.one (fun a b : El w0 g => RL.cmpR a.row b.row) El.swo 93 #[] g off cap d wr (enters_of Tryz.func93 (by kernel_rfl) rfl) h.cmp h.holds h.lt' (by omega)
  refine Calls.mono hc fun e w' ⟨h1, d', n, os, hp, hs, hw⟩ => ⟨d', h1, hp.1, ?_, ?_, by rw [hw]; exact h.sortW n d' os hp.1⟩
  · have := hp.2.2
    rw [← hp.1] at this
    simp only [Array.extract_size] at this
    rw [hp.1] at this
    simp only [Array.extract_size] at this
    exact this.map _
  · unfold Asc
    rw [List.pairwise_map, List.pairwise_iff_getElem]
    intro i j hi hj hij
    simp only [Array.length_toList] at hi hj
    have := hs i j (Nat.zero_le _) hij (by rw [← hp.1]; exact hj)
    simp only [ltOf, decide_eq_false_iff_not, Int.not_lt] at this
    have h2 : 0 ≤ RL.cmpR d'.toList[j].row d'.toList[i].row := by simpa [hi, hj] using this
    rw [RL.tot_cmpR.sw d'.toList[j].row d'.toList[i].row]
    omega
end
end Go.Proofs.YtdadchpiibipoaaGreatDoor

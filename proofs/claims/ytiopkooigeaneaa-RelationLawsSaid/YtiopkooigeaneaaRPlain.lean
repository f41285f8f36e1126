/- Plain: values, rows and their total orders; sorted sets of rows. -/
import Derived.Lib.Bytealg
namespace Go.Proofs.Ytiopkooigeaneaa.RL

/-- A three-way comparison that is a total order. -/
structure Tot {α : Type} (c : α → α → Int) : Prop where
  z : ∀ a b, c a b = 0 ↔ a = b
  sw : ∀ a b, c b a = - c a b
  tr : ∀ a b d, c a b < 0 → c b d < 0 → c a d < 0
  rg : ∀ a b, c a b = -1 ∨ c a b = 0 ∨ c a b = 1

section
variable {α : Type} {c : α → α → Int} (T : Tot c)
include T
theorem Tot.self (a : α) : c a a = 0 := (T.z a a).2 rfl
theorem Tot.gt (a b : α) : 0 < c a b ↔ c b a < 0 := by rw [T.sw a b]; omega
theorem Tot.le_trans {a b d : α} (h1 : c a b ≤ 0) (h2 : c b d ≤ 0) : c a d ≤ 0 := by
  rcases Int.lt_or_eq_of_le h1 with h1 | h1
  · rcases Int.lt_or_eq_of_le h2 with h2 | h2
    · exact Int.le_of_lt (T.tr _ _ _ h1 h2)
    · rw [(T.z _ _).1 h2] at h1; exact Int.le_of_lt h1
  · rw [(T.z _ _).1 h1]; exact h2
theorem Tot.lt_of_le_of_lt {a b d : α} (h1 : c a b ≤ 0) (h2 : c b d < 0) : c a d < 0 := by
  rcases Int.lt_or_eq_of_le h1 with h1 | h1
  · exact T.tr _ _ _ h1 h2
  · rw [(T.z _ _).1 h1]; exact h2
theorem Tot.lt_of_lt_of_le {a b d : α} (h1 : c a b < 0) (h2 : c b d ≤ 0) : c a d < 0 := by
  rcases Int.lt_or_eq_of_le h2 with h2 | h2
  · exact T.tr _ _ _ h1 h2
  · rw [← (T.z _ _).1 h2]; exact h1
end

def cmpI (a b : Int) : Int := if a < b then -1 else if b < a then 1 else 0
theorem tot_cmpI : Tot cmpI where
  z a b := by unfold cmpI; split <;> (try split) <;> omega
  sw a b := by unfold cmpI; split <;> split <;> (try split) <;> omega
  tr a b d := by unfold cmpI; split <;> split <;> (try split) <;> (try split) <;> omega
  rg a b := by unfold cmpI; split <;> (try split) <;> omega

/-- Lexicographic. -/
def cmpL {α : Type} (c : α → α → Int) : List α → List α → Int
  | [], [] => 0
  | [], _ :: _ => -1
  | _ :: _, [] => 1
  | a :: x, b :: y => if c a b = 0 then cmpL c x y else c a b

theorem tot_cmpL {α : Type} {c : α → α → Int} (T : Tot c) : Tot (cmpL c) where
  z := by
    intro x
    induction x with
    | nil => intro y; cases y <;> simp [cmpL]
    | cons a x ih =>
      intro y
      cases y with
      | nil => simp [cmpL]
      | cons b y =>
        simp only [cmpL]
        split
        · rename_i h; rw [ih, (T.z a b).1 h]; simp
        · rename_i h; rw [T.z] at h; simp [T.z, h]
  sw := by
    intro x
    induction x with
    | nil => intro y; cases y <;> simp [cmpL]
    | cons a x ih =>
      intro y
      cases y with
      | nil => simp [cmpL]
      | cons b y =>
        simp only [cmpL, T.sw a b]
        by_cases h : c a b = 0
        · rw [if_pos (by omega), if_pos h, ih]
        · rw [if_neg (by omega), if_neg h]
  tr := by
    intro x
    induction x with
    | nil => intro y d; cases y <;> cases d <;> simp [cmpL]
    | cons a x ih =>
      intro y d
      cases y with
      | nil => cases d <;> simp [cmpL]
      | cons b y =>
        cases d with
        | nil => simp [cmpL]
        | cons e d =>
          simp only [cmpL]
          intro h1 h2
          by_cases h : c a b = 0
          · rw [if_pos h] at h1
            rw [(T.z _ _).1 h]
            by_cases h' : c b e = 0
            · rw [if_pos h'] at h2 ⊢; exact ih y d h1 h2
            · rw [if_neg h'] at h2 ⊢; exact h2
          · rw [if_neg h] at h1
            by_cases h' : c b e = 0
            · rw [← (T.z _ _).1 h', if_neg h]; exact h1
            · rw [if_neg h'] at h2
              have := T.tr _ _ _ h1 h2
              rw [if_neg (by omega)]; exact this
  rg := by
    intro x
    induction x with
    | nil => intro y; cases y <;> simp [cmpL]
    | cons a x ih =>
      intro y
      cases y with
      | nil => simp [cmpL]
      | cons b y =>
        simp only [cmpL]
        split
        · exact ih y
        · exact T.rg a b

def cmpB (a b : UInt8) : Int := if a < b then -1 else if b < a then 1 else 0
theorem tot_cmpB : Tot cmpB where
  z a b := by unfold cmpB; simp only [UInt8.lt_iff_toNat_lt, ← UInt8.toNat_inj]; split <;> (try split) <;> omega
  sw a b := by unfold cmpB; simp only [UInt8.lt_iff_toNat_lt]; split <;> split <;> (try split) <;> omega
  tr a b d := by unfold cmpB; simp only [UInt8.lt_iff_toNat_lt]; split <;> split <;> (try split) <;> (try split) <;> omega
  rg a b := by unfold cmpB; split <;> (try split) <;> omega
theorem compareBytes_eq : ∀ x y : List UInt8, Lib.compareBytes x y = cmpL cmpB x y
  | [], [] => rfl
  | [], _ :: _ => rfl
  | _ :: _, [] => rfl
  | a :: x, b :: y => by
    simp only [Lib.compareBytes, cmpL, cmpB, compareBytes_eq x y]
    split
    · simp
    · split <;> simp

/-- A value of the program (api.Value, ordinalref01.Value). -/
structure V where
  kind : Int
  int : Int
  str : ByteArray

theorem V.ext_iff {a b : V} : a = b ↔ a.kind = b.kind ∧ a.int = b.int ∧ a.str = b.str := by
  cases a; cases b; simp
instance : DecidableEq V := fun a b => decidable_of_iff (a.kind = b.kind ∧ a.int = b.int ∧ a.str = b.str) V.ext_iff.symm
instance : Inhabited V := ⟨⟨0, 0, ByteArray.empty⟩⟩

def cmpS (a b : ByteArray) : Int := Lib.compareBytes a.data.toList b.data.toList
theorem str_ext {a b : ByteArray} (h : a.data.toList = b.data.toList) : a = b := by
  cases a with | mk a => cases b with | mk b => simp at h; simp [h]
theorem tot_cmpS : Tot cmpS := by
  have T := tot_cmpL tot_cmpB
  refine ⟨fun a b => ?_, fun a b => ?_, fun a b d => ?_, fun a b => ?_⟩ <;> unfold cmpS <;> simp only [compareBytes_eq]
  · rw [T.z]; exact ⟨str_ext, fun h => by rw [h]⟩
  · exact T.sw _ _
  · exact T.tr _ _ _
  · exact T.rg _ _

/-- The first comparison that tells. -/
def then2 (x y : Int) : Int := if x = 0 then y else x
theorem tot_pair {α β : Type} {c : α → α → Int} {d : β → β → Int} (T : Tot c) (U : Tot d) : Tot (fun p q : α × β => then2 (c p.1 q.1) (d p.2 q.2)) where
  z p q := by
    obtain ⟨a, b⟩ := p
    obtain ⟨a', b'⟩ := q
    simp only [then2, Prod.mk.injEq]
    split
    · rename_i h; rw [U.z, (T.z _ _).1 h]; simp
    · rename_i h; constructor
      · intro e; exact absurd e h
      · intro e; exact absurd ((T.z _ _).2 e.1) h
  sw p q := by
    simp only [then2, T.sw p.1 q.1, U.sw p.2 q.2]
    by_cases h : c p.1 q.1 = 0
    · rw [if_pos (by omega), if_pos h]
    · rw [if_neg (by omega), if_neg h]
  tr p q r := by
    simp only [then2]
    intro h1 h2
    by_cases h : c p.1 q.1 = 0
    · rw [if_pos h] at h1
      rw [(T.z _ _).1 h]
      by_cases h' : c q.1 r.1 = 0
      · rw [if_pos h'] at h2 ⊢; exact U.tr _ _ _ h1 h2
      · rw [if_neg h'] at h2 ⊢; exact h2
    · rw [if_neg h] at h1
      by_cases h' : c q.1 r.1 = 0
      · rw [← (T.z _ _).1 h', if_neg h]; exact h1
      · rw [if_neg h'] at h2
        have := T.tr _ _ _ h1 h2
        rw [if_neg (by omega)]; exact this
  rg p q := by
    simp only [then2]
    split
    · exact U.rg _ _
    · exact T.rg _ _

def cmpV (a b : V) : Int := then2 (cmpI a.kind b.kind) (then2 (cmpI a.int b.int) (cmpS a.str b.str))
theorem tot_cmpV : Tot cmpV := by
  have T := tot_pair tot_cmpI (tot_pair tot_cmpI tot_cmpS)
  refine ⟨fun a b => ?_, fun a b => ?_, fun a b d => ?_, fun a b => ?_⟩
  · have h := T.z (a.kind, a.int, a.str) (b.kind, b.int, b.str)
    simp only [Prod.mk.injEq] at h
    rw [V.ext_iff]
    exact h
  · exact T.sw (a.kind, a.int, a.str) (b.kind, b.int, b.str)
  · exact T.tr (a.kind, a.int, a.str) (b.kind, b.int, b.str) (d.kind, d.int, d.str)
  · exact T.rg (a.kind, a.int, a.str) (b.kind, b.int, b.str)
theorem cmpV_kind {a b : V} (h : a.kind ≠ b.kind) : cmpV a b = cmpI a.kind b.kind := by
  unfold cmpV then2
  rw [if_neg (fun e => h ((tot_cmpI.z _ _).1 e))]
theorem cmpV_int {a b : V} (h : a.kind = b.kind) (h2 : a.int ≠ b.int) : cmpV a b = cmpI a.int b.int := by
  unfold cmpV then2
  rw [if_pos ((tot_cmpI.z _ _).2 h), if_neg (fun e => h2 ((tot_cmpI.z _ _).1 e))]
theorem cmpV_str {a b : V} (h : a.kind = b.kind) (h2 : a.int = b.int) : cmpV a b = cmpS a.str b.str := by
  unfold cmpV then2
  rw [if_pos ((tot_cmpI.z _ _).2 h), if_pos ((tot_cmpI.z _ _).2 h2)]

/-- A value that the program calls valid. -/
def validV (v : V) : Bool := (decide (v.kind = 1) && decide (v.str.size = 0)) || (decide (v.kind = 2) && decide (v.int = 0) && decide (v.str.size ≤ 24))

/-- A comparison with an operator. -/
def holdsF (op c : Int) : Bool := if op = 0 then c == 0 else if op = 1 then c != 0 else if op = 2 then decide (c < 0) else if op = 3 then decide (c ≤ 0) else if op = 4 then decide (0 < c) else decide (0 ≤ c)

abbrev R := List V
def cmpR (x y : R) : Int := cmpL cmpV x y
theorem tot_cmpR : Tot cmpR := tot_cmpL tot_cmpV

/-- The rows of r's first values. -/
theorem cmpR_nil (y : R) : cmpR [] y = if y = [] then 0 else -1 := by cases y <;> simp [cmpR, cmpL]

end Go.Proofs.Ytiopkooigeaneaa.RL

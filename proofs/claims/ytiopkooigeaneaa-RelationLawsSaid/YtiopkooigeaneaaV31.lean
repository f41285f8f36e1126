/- The set operations of relation, in one form each. -/
import Derived.Test.YtiopkooigeaneaaV28
import Derived.Test.YtiopkooigeaneaaV29
import Derived.Test.YtiopkooigeaneaaV30
namespace Go.Proofs.Ytiopkooigeaneaa
open Go.RowKit Go.Sort

theorem unionF_ss {X : List RL.R} (Y : List RL.R) (h : RL.SS X) : RL.SS (unionF X Y) := (RL.foldl_ins Y X h).1
theorem bothF_ss {X : List RL.R} (Y : List RL.R) (nt : Bool) (h : RL.SS X) : RL.SS (bothF X Y nt) := h.filter _
theorem bothF_eq (X Y : List RL.R) (wt : Bool) : (X.filter fun x => decide (x ∈ Y) == wt) = bothF X Y (!wt) := by
  unfold bothF
  congr 1
  funext x
  cases decide (x ∈ Y) <;> cases wt <;> rfl
theorem mem_bothF (X Y : List RL.R) (nt : Bool) (r : RL.R) : r ∈ bothF X Y nt ↔ r ∈ X ∧ (decide (r ∈ Y) != nt) = true := by unfold bothF; rw [List.mem_filter]
theorem bothF_len (X Y : List RL.R) (nt : Bool) : (bothF X Y nt).length ≤ X.length := List.length_filter_le _ _

/-- A relation as a value: arity n, rows X. -/
def RelV (w : World) (n : Int) (X : List RL.R) (A : Option Addr) (C : Nat) : Prop := SlRs w.heap.size w A X ∧ X.length ≤ C ∧ C ≤ 9223372036854775807
theorem RelV.up {w w' : World} {n : Int} {X : List RL.R} {A : Option Addr} {C : Nat} (h : RelV w n X A C) (hb : Below w.heap.size w w') : RelV w' n X A C := ⟨h.1.upB hb, h.2⟩
/-- The rows of a relation: ascending, of sizes that the program can hold. -/
def RelOk (X : List RL.R) : Prop := RL.SS X ∧ RsOk X

theorem rlUnion_all (n : Int) (RA YA : Option Addr) (RC YC : Nat) (X Y : List RL.R) (w : World) (hX : RelV w n X RA RC) (hY : RelV w n Y YA YC) (hXo : RelOk X) (hYo : RelOk Y) (hl : X.length + Y.length ≤ 60000) :
    Calls Try.prog 43 #[.agg #[.int .i64 n, .slice RA X.length RC], .agg #[.int .i64 n, .slice YA Y.length YC]] w fun e w' => ∃ A C, e = .returned (.tuple #[.agg #[.int .i64 n, .slice A (unionF X Y).length C], .int .i64 0]) ∧ RelV w' n (unionF X Y) A C ∧ Below w.heap.size w w' := by
  refine (rlUnion_P (fun _ => True) n RA YA RC YC X Y w (hX.1.toP.weak fun _ _ _ => trivial) (hY.1.toP.weak fun _ _ _ => trivial) (fun _ _ => trivial) hXo.2 hYo.2 hl hXo.1 hYo.1 hY.2.1 hY.2.2).mono ?_
  rintro e w' ⟨v, Z, rfl, ⟨A, C, rfl, h1, h2, h3⟩, hs, hm, -, hb⟩
  obtain rfl : Z = unionF X Y := RL.SS.ext hs (unionF_ss Y hXo.1) (fun r => by rw [hm, mem_unionF'])
  exact ⟨A, C, rfl, ⟨h3.sl, h1, h2⟩, hb⟩
theorem rlIntersect_all (n : Int) (RA YA : Option Addr) (RC YC : Nat) (X Y : List RL.R) (w : World) (hX : RelV w n X RA RC) (hY : RelV w n Y YA YC) (hXo : RelOk X) (hYo : RelOk Y) (hXl : X.length ≤ 60000) (hYl : Y.length ≤ 60000) :
    Calls Try.prog 45 #[.agg #[.int .i64 n, .slice RA X.length RC], .agg #[.int .i64 n, .slice YA Y.length YC]] w fun e w' => ∃ A C, e = .returned (.tuple #[.agg #[.int .i64 n, .slice A (bothF X Y false).length C], .int .i64 0]) ∧ RelV w' n (bothF X Y false) A C ∧ Below w.heap.size w w' := by
  refine (rlIntersect_P (fun _ => True) n RA YA RC YC X Y w (hX.1.toP.weak fun _ _ _ => trivial) (hY.1.toP.weak fun _ _ _ => trivial) (fun _ _ => trivial) hXo.2 hYo.2 hXl hYl hXo.1 hYo.1 hY.2.1 hY.2.2).mono ?_
  rintro e w' ⟨v, rfl, ⟨A, C, rfl, h1, h2, h3⟩, hb⟩
  rw [bothF_eq] at h1 h3 ⊢
  exact ⟨A, C, rfl, ⟨h3.sl, h1, h2⟩, hb⟩
theorem rlMinus_all (n : Int) (RA YA : Option Addr) (RC YC : Nat) (X Y : List RL.R) (w : World) (hX : RelV w n X RA RC) (hY : RelV w n Y YA YC) (hXo : RelOk X) (hYo : RelOk Y) (hXl : X.length ≤ 60000) (hYl : Y.length ≤ 60000) :
    Calls Try.prog 47 #[.agg #[.int .i64 n, .slice RA X.length RC], .agg #[.int .i64 n, .slice YA Y.length YC]] w fun e w' => ∃ A C, e = .returned (.tuple #[.agg #[.int .i64 n, .slice A (bothF X Y true).length C], .int .i64 0]) ∧ RelV w' n (bothF X Y true) A C ∧ Below w.heap.size w w' := by
  refine (rlMinus_P (fun _ => True) n RA YA RC YC X Y w (hX.1.toP.weak fun _ _ _ => trivial) (hY.1.toP.weak fun _ _ _ => trivial) (fun _ _ => trivial) hXo.2 hYo.2 hXl hYl hXo.1 hYo.1 hY.2.1 hY.2.2).mono ?_
  rintro e w' ⟨v, rfl, ⟨A, C, rfl, h1, h2, h3⟩, hb⟩
  rw [bothF_eq] at h1 h3 ⊢
  exact ⟨A, C, rfl, ⟨h3.sl, h1, h2⟩, hb⟩
theorem unionF_ok {X Y : List RL.R} (hX : RelOk X) (hY : RelOk Y) : RelOk (unionF X Y) := ⟨unionF_ss Y hX.1, fun r hr => by
  rcases (mem_unionF' _ _ _).1 hr with h | h
  · exact hX.2 r h
  · exact hY.2 r h⟩
theorem bothF_ok {X : List RL.R} (Y : List RL.R) (nt : Bool) (hX : RelOk X) : RelOk (bothF X Y nt) := ⟨bothF_ss Y nt hX.1, fun r hr => hX.2 r ((mem_bothF X Y nt r).1 hr).1⟩

end Go.Proofs.Ytiopkooigeaneaa

/- Walk: relation's Insert. -/
import Derived.Test.YtiomelogggilgaaQ3
namespace Go.Proofs.Ytiomelogggilgaa
open Go.RowKit Go.Sort

/-- The address of a tail of a slice of rows. -/
def tailA (A : Option Addr) (k cap : Nat) : Option Addr := if cap = k then A else A.map (·.add k)
theorem elemRows : Try.prog.elem 32 = 34 := by kernel_rfl
theorem underRows : Try.prog.underlying 32 = some (.slice (Try.prog.elem 32)) := by kernel_rfl
theorem slTail (A : Option Addr) (len cap k : Nat) (h : k ≤ len) (W : World) : (Instr.slice 32 (.slice A len cap) (some (.int .i64 (k : Int))) none none).run Try.prog W = .ok (.slice (tailA A k cap) (len - k) (cap - k)) W := by
  rw [run_slice_l W 32 A len cap underRows .i64 k (by omega) (by omega), elemRows, Try.sizeOf34]
  simp [tailA, sliced, Result.andThen]
theorem slHead (A : Option Addr) (len cap k : Nat) (h : k ≤ cap) (W : World) : (Instr.slice 32 (.slice A len cap) none (some (.int .i64 (k : Int))) none).run Try.prog W = .ok (.slice A k cap) W := by
  rw [run_slice_h W 32 A len cap underRows .i64 k (by omega) (by omega), elemRows, Try.sizeOf34]
  cases A <;> simp [sliced, Addr.add, Result.andThen]

theorem SlRsP.head {P : Nat → Prop} {B : Nat} {w : World} {A : Option Addr} {X : List RL.R} (h : SlRsP P B w A X) (k : Nat) : SlRsP P B w A (X.take k) := fun hn => by
  obtain ⟨b, o, e, hb, hp, hs, hH, hc⟩ := h (by intro h0; apply hn; rw [h0]; simp)
  refine ⟨b, o, e, hb, hp, hs.take k, hH.take k, fun i u hu => ?_⟩
  rw [List.getElem?_take] at hu
  split at hu
  · exact hc i u hu
  · cases hu
theorem SlRsP.tail {P : Nat → Prop} {B : Nat} {w : World} {A : Option Addr} {X : List RL.R} {cap : Nat} (h : SlRsP P B w A X) (hc : X.length ≤ cap) (k : Nat) : SlRsP P B w (tailA A k cap) (X.drop k) := fun hn => by
  have hk : k < X.length := by
    rcases Nat.lt_or_ge k X.length with h1 | h1
    · exact h1
    · exact absurd (List.drop_of_length_le h1) hn
  obtain ⟨b, o, rfl, hb, hp, hs, hH, hcell⟩ := h (by intro h0; apply hn; rw [h0]; simp)
  refine ⟨b, o + k, ?_, hb, hp, hs.drop k, hH.drop k, fun i u hu => ?_⟩
  · unfold tailA
    rw [if_neg (by omega)]
    simp only [Option.map_some, Addr.add_lit]
  · rw [List.getElem?_drop] at hu
    rw [Nat.add_assoc]
    exact hcell _ u hu

/-- The headers of a list of rows, for all later worlds. -/
theorem SlRsP.hdrs2 {P : Nat → Prop} {B : Nat} {w : World} {A : Option Addr} {X : List RL.R} (h : SlRsP P B w A X) : ∃ hs, Hdrs P B w hs X ∧ (∀ W : World, (∀ p : Addr, p.block < B → P p.block → W.cell? p = w.cell? p) → ∀ ad, A = some ad → ∀ j u, hs[j]? = some u → W.cell? (ad.add j) = some u) ∧ (A = none → hs = []) := by
  by_cases hn : X = []
  · subst hn
    exact ⟨[], Hdrs.nil, fun _ _ _ _ j u hu => by simp at hu, fun _ => rfl⟩
  obtain ⟨b, o, rfl, hb, hp, hs, hH, hc⟩ := h hn
  exact ⟨hs, hH, fun W hW ad e j u hu => by injection e with e; subst e; rw [Addr.add_lit]; exact (hW ⟨b, o + j, none⟩ hb hp).trans (hc j u hu), fun e => by cases e⟩

theorem makeRows0 (n : Nat) (hn : n ≤ 1000000) (w : World) : (Instr.makeSlice 32 (.int .i64 0) (.int .i64 ((n : Int) + 1))).run Try.prog w = .ok (.slice (some ⟨w.heap.size, 0, none⟩) 0 (n + 1)) (w.alloc (.cells (zerosA (.slice none 0 0) (n + 1)) 34)) := by
  obtain ⟨i0, hi0, hz0, hz1, hz2⟩ := info_parts rowInfo
  have := run_make (P := Try.prog) w 32 34 i0 _ Try.underlying32 hi0 hz0 .i64 .i64 0 ((n : Int) + 1) (by omega) (by omega) (by rw [hz2]; omega) (by omega)
  rw [this, hz1]
  rw [show ((n : Int) + 1).toNat = n + 1 by omega]
  rw [zeros_made _ _ rfl]
  rfl
theorem own_made (w : World) (n base : Nat) (hn : n ≤ 1000000) (hb : base ≤ w.heap.size) : (w.alloc (.cells (zerosA (.slice none 0 0) n) 34)).ownsRow base 34 1 (.slice (some ⟨w.heap.size, 0, none⟩) 0 n) 0 [] :=
  ⟨by simp, .inr ⟨w.heap.size, n, _, rfl, hb, heap_alloc_new w _, Nat.zero_le _, by simp only [maxLen]; omega, by simp [zerosA], by simp⟩⟩

/-- What relation's Insert leaves. -/
def InsPost (P : Nat → Prop) (w : World) (n : Int) (X : List RL.R) (x : RL.R) (e : Ending) (w' : World) : Prop :=
  (wrongF n x ≠ 0 → e = .returned (.tuple #[.agg #[.int .i64 0, .slice none 0 0], .bool false, .int .i64 (wrongF n x)])) ∧ (wrongF n x = 0 → ∃ v, e = .returned (.tuple #[v, .bool (!decide (x ∈ X)), .int .i64 0]) ∧ RelP P w' n (RL.insF X x) v) ∧ Below w.heap.size w w'

end Go.Proofs.Ytiomelogggilgaa

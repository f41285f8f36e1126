/- The operations of a store in one form each. -/
import Derived.Test.YtgaffbdcpkbdhaaHZ24
import Derived.Test.YtgaffbdcpkbdhaaQ5
namespace Go.Proofs.Ytgaffbdcpkbdhaa
open Go.RowKit Go.Sort Go.ChangeMaps Go.WideShapes

def findV (V : List Ver) (n : Int) : Option Ver := V.find? fun x => decide (x.num = n)
theorem findV_some {V : List Ver} {n : Int} {x : Ver} (h : findV V n = some x) : x ∈ V ∧ x.num = n := ⟨List.mem_of_find?_eq_some h, by have := List.find?_some h; simpa using this⟩
theorem findV_none {V : List Ver} {n : Int} (h : findV V n = none) : ∀ x ∈ V, x.num ≠ n := fun x hx => by have := List.find?_eq_none.1 h x hx; simpa using this
def pinsV (V : List Ver) (n : Int) : Int := match findV V n with | none => 0 | some x => x.pins
def pinR (V : List Ver) (n : Int) : Int × List Ver := match findV V n with | none => (31, V) | some x => (0, putV V ⟨x.num, x.db, x.pins + 1⟩)
def unpinR (V : List Ver) (n : Int) : Int × List Ver := match findV V n with | none => (31, V) | some x => if x.pins = 0 then (17, V) else (0, putV V ⟨x.num, x.db, x.pins - 1⟩)
/-- The database of a version. -/
def dbV (V : List Ver) (n : Int) : Cont := match findV V n with | none => cont0 | some x => x.db
/-- What a commit answers: the error, the versions, the latest. -/
def commitR (S : Sch) (V : List Ver) (l : Int) (us : List Upd) : Int × List Ver × Int :=
  if (applyF S (dbV V l) 0 us).1 = 0 then (0, putV V ⟨l + 1, (applyF S (dbV V l) 0 us).2.1, 0⟩, l + 1) else ((applyF S (dbV V l) 0 us).1, V, l)
/-- A store that the laws may have. -/
structure Good (V : List Ver) (l : Int) (B : Nat) : Prop where
  has : ∃ x ∈ V, x.num = l
  all : ∀ x ∈ V, x.num ≤ l ∧ 0 ≤ x.num ∧ 0 ≤ x.pins ∧ x.pins ≤ B
  len : V.length ≤ B + 1
  low : 0 ≤ l
  high : l ≤ B + 300
theorem Good.more {V : List Ver} {l : Int} {B B' : Nat} (h : Good V l B) (hB : B ≤ B') : Good V l B' :=
  ⟨h.has, fun x hx => by obtain ⟨a, b, c, d⟩ := h.all x hx; exact ⟨a, b, c, by omega⟩, by have := h.len; omega, h.low, by have := h.high; omega⟩
theorem Good.find {V : List Ver} {l : Int} {B : Nat} (h : Good V l B) : ∃ x, findV V l = some x ∧ x ∈ V ∧ x.num = l := by
  cases hf : findV V l with
  | none => obtain ⟨x, hx, e⟩ := h.has; exact absurd e (findV_none hf x hx)
  | some x => exact ⟨x, rfl, findV_some hf⟩
theorem Good.one {n : Int} {F : Cont} (h0 : 0 ≤ n) (h1 : n ≤ 300) : Good [⟨n, F, 0⟩] n 0 :=
  ⟨⟨_, List.mem_singleton.2 rfl, rfl⟩, fun x hx => by rw [List.mem_singleton.1 hx]; exact ⟨Int.le_refl _, h0, Int.le_refl _, Int.le_refl _⟩, Nat.le_refl _, h0, by omega⟩
theorem Good.put {V : List Ver} {l : Int} {B : Nat} (h : Good V l B) (hp : V.Pairwise (fun x y => x.num < y.num)) {n : Int} {F : Cont} {p : Int} (hn : 0 ≤ n) (hnl : n ≤ l) (hin : ∃ x ∈ V, x.num = n) (h0 : 0 ≤ p) (hpB : p ≤ B + 1) : Good (putV V ⟨n, F, p⟩) l (B + 1) := by
  have hany : (V.any fun x => x.num == n) = true := by
    obtain ⟨x, hx, e⟩ := hin
    exact List.any_eq_true.2 ⟨x, hx, by simp [e]⟩
  refine ⟨?_, fun x hx => ?_, ?_, h.low, by have := h.high; omega⟩
  · obtain ⟨x, hx, e⟩ := h.has
    by_cases e2 : n = l
    · exact ⟨_, (mem_putV _ hp _).2 (.inl rfl), e2⟩
    · exact ⟨x, (mem_putV _ hp _).2 (.inr ⟨hx, fun e3 => e2 (e3.symm.trans e)⟩), e⟩
  · rcases (mem_putV _ hp x).1 hx with rfl | ⟨hx, _⟩
    · exact ⟨hnl, hn, h0, by show p ≤ _; omega⟩
    · obtain ⟨a, b, c, d⟩ := h.all x hx
      exact ⟨a, b, c, by omega⟩
  · rw [putV_len _ hp, hany]
    have := h.len
    show V.length ≤ _
    omega
theorem Good.pin {V : List Ver} {l : Int} {B : Nat} (h : Good V l B) (hp : V.Pairwise (fun x y => x.num < y.num)) (n : Int) : Good (pinR V n).2 l (B + 1) := by
  unfold pinR
  cases hf : findV V n with
  | none => exact h.more (by omega)
  | some x =>
    obtain ⟨hx, e⟩ := findV_some hf
    obtain ⟨a, b, c, d⟩ := h.all x hx
    exact h.put hp b a ⟨x, hx, rfl⟩ (by omega) (by omega)
theorem Good.unpin {V : List Ver} {l : Int} {B : Nat} (h : Good V l B) (hp : V.Pairwise (fun x y => x.num < y.num)) (n : Int) : Good (unpinR V n).2 l (B + 1) := by
  unfold unpinR
  cases hf : findV V n with
  | none => exact h.more (by omega)
  | some x =>
    obtain ⟨hx, e⟩ := findV_some hf
    obtain ⟨a, b, c, d⟩ := h.all x hx
    show Good (if x.pins = 0 then (17, V) else _).2 l (B + 1)
    split
    · exact h.more (by omega)
    · exact h.put hp b a ⟨x, hx, rfl⟩ (by omega) (by omega)
theorem Good.commit {V : List Ver} {l : Int} {B : Nat} (h : Good V l B) (hp : V.Pairwise (fun x y => x.num < y.num)) (S : Sch) (us : List Upd) : Good (commitR S V l us).2.1 (commitR S V l us).2.2 (B + 1) := by
  unfold commitR
  split
  · refine ⟨⟨_, (mem_putV _ hp _).2 (.inl rfl), rfl⟩, fun x hx => ?_, ?_, by have := h.low; show 0 ≤ l + 1; omega, by have := h.high; show l + 1 ≤ _; omega⟩
    · rcases (mem_putV _ hp x).1 hx with rfl | ⟨hx, _⟩
      · exact ⟨Int.le_refl _, by have := h.low; show 0 ≤ l + 1; omega, Int.le_refl _, by show (0 : Int) ≤ _; omega⟩
      · obtain ⟨a, b, c, d⟩ := h.all x hx
        exact ⟨by show x.num ≤ l + 1; omega, b, c, by omega⟩
    · show (putV V _).length ≤ _
      rw [putV_len _ hp]
      have := h.len
      split <;> omega
  · exact h.more (by omega)
theorem Good.gone {V : List Ver} {l : Int} {B : Nat} (h : Good V l B) : Good (V.filter fun x => !goneB l x) l (B + 1) := by
  refine ⟨?_, fun x hx => ?_, Nat.le_trans (List.length_filter_le _ _) (by have := h.len; omega), h.low, by have := h.high; omega⟩
  · obtain ⟨x, hx, e⟩ := h.has
    refine ⟨x, List.mem_filter.2 ⟨hx, ?_⟩, e⟩
    unfold goneB
    rw [decide_eq_false (show ¬ x.num ≠ l from fun k => k e), Bool.and_false]
    rfl
  · obtain ⟨a, b, c, d⟩ := h.all x (List.mem_filter.1 hx).1
    exact ⟨a, b, c, by omega⟩
theorem StM.asc {P : Nat → Prop} {S : Sch} {w : World} {m : Value} {V : List Ver} (h : StM P S w m V) : V.Pairwise (fun x y => x.num < y.num) := by
  obtain ⟨_, _, _, _, _, _, _, _, h6⟩ := h
  exact h6

section
variable {P : Nat → Prop} {S : Sch} {m : Value} {l n : Int} {V : List Ver} {w : World} {B : Nat}
theorem snPins_all (h : StM P S w m V) (hw : (Lit.int .i64 n).wf = true) : Calls Try.prog 18 #[.agg #[m, .int .i64 l], .int .i64 n] w fun e w' => e = .returned (.int .i64 (pinsV V n)) ∧ Ext w w' := by
  unfold pinsV
  cases hf : findV V n with
  | none => exact snPins_none h hw (findV_none hf)
  | some x =>
    obtain ⟨hx, rfl⟩ := findV_some hf
    exact snPins_some h hx
def AtPost (P : Nat → Prop) (S : Sch) (V : List Ver) (n : Int) (w : World) (e : Ending) (w' : World) : Prop :=
  ((findV V n = none) → e = .returned (.tuple #[.agg #[.map none], .int .i64 31])) ∧ (∀ x, findV V n = some x → ∃ d, e = .returned (.tuple #[.agg #[.map (some d)], .int .i64 0]) ∧ DbM P S w (.map (some d)) x.db) ∧ Ext w w'
theorem snAt_all (h : StM P S w m V) (hw : (Lit.int .i64 n).wf = true) : Calls Try.prog 14 #[.agg #[m, .int .i64 l], .int .i64 n] w (AtPost P S V n w) := by
  cases hf : findV V n with
  | none => exact (snAt_none h hw (findV_none hf)).mono fun e w' hh => ⟨fun _ => hh.1, fun x hx => (by rw [hf] at hx; cases hx), hh.2⟩
  | some x =>
    obtain ⟨hx, rfl⟩ := findV_some hf
    refine (snAt_some h hx).mono fun e w' hh => ?_
    obtain ⟨d, e1, hd, hx'⟩ := hh
    obtain ⟨bd, rfl⟩ := hd.form
    refine ⟨fun hn => (by rw [hf] at hn; cases hn), fun y hy => ?_, hx'⟩
    rw [hf] at hy
    cases hy
    exact ⟨bd, e1, hd⟩
def StPost (P : Nat → Prop) (S : Sch) (m : Value) (l : Int) (r : Int × List Ver) (w : World) (e : Ending) (w' : World) : Prop :=
  ∃ m', e = .returned (.tuple #[.agg #[.map (some m'), .int .i64 l], .int .i64 r.1]) ∧ (r.1 ≠ 0 → .map (some m') = m) ∧ StM P S w' (.map (some m')) r.2 ∧ Below w.heap.size w w'
theorem snPin_all (h : StM P S w m V) (hPn : ∀ b, w.heap.size ≤ b → P b) (hg : Good V l B) (hB : B ≤ 500) (hw : (Lit.int .i64 n).wf = true) : Calls Try.prog 16 #[.agg #[m, .int .i64 l], .int .i64 n] w (StPost P S m l (pinR V n) w) := by
  have hlen := hg.len
  unfold pinR
  cases hf : findV V n with
  | none =>
    obtain ⟨b, rfl⟩ := h.form
    exact (snPin_none h hw (findV_none hf)).mono fun e w' hh => ⟨b, hh.1, fun _ => rfl, h.up hh.2.below, hh.2.below⟩
  | some x =>
    obtain ⟨hx, rfl⟩ := findV_some hf
    obtain ⟨a, b, c, d⟩ := hg.all x hx
    refine (snPin_some h hPn (by omega) hx ⟨by omega, by omega⟩).mono fun e w' hh => ?_
    obtain ⟨m', e1, hs, hb⟩ := hh
    obtain ⟨bd, rfl⟩ := hs.form
    exact ⟨bd, e1, fun h0 => absurd rfl h0, hs, hb⟩
theorem snUnpin_all (h : StM P S w m V) (hPn : ∀ b, w.heap.size ≤ b → P b) (hg : Good V l B) (hB : B ≤ 500) (hw : (Lit.int .i64 n).wf = true) : Calls Try.prog 17 #[.agg #[m, .int .i64 l], .int .i64 n] w (StPost P S m l (unpinR V n) w) := by
  have hlen := hg.len
  unfold unpinR
  cases hf : findV V n with
  | none =>
    obtain ⟨b, rfl⟩ := h.form
    exact (snUnpin_none h hw (findV_none hf)).mono fun e w' hh => ⟨b, hh.1, fun _ => rfl, h.up hh.2.below, hh.2.below⟩
  | some x =>
    obtain ⟨hx, rfl⟩ := findV_some hf
    obtain ⟨a, b, c, d⟩ := hg.all x hx
    by_cases h0 : x.pins = 0
    · obtain ⟨b, rfl⟩ := h.form
      show Calls _ _ _ _ (StPost P S _ l (if x.pins = 0 then (17, V) else _) w)
      rw [if_pos h0]
      exact (snUnpin_zero h hx h0).mono fun e w' hh => ⟨b, hh.1, fun _ => rfl, h.up hh.2.below, hh.2.below⟩
    · show Calls _ _ _ _ (StPost P S _ l (if x.pins = 0 then (17, V) else _) w)
      rw [if_neg h0]
      refine (snUnpin_some h hPn (by omega) hx ⟨by omega, by omega⟩).mono fun e w' hh => ?_
      obtain ⟨m', e1, hs, hb⟩ := hh
      obtain ⟨bd, rfl⟩ := hs.form
      exact ⟨bd, e1, fun h0 => absurd rfl h0, hs, hb⟩
def CommitPost (P : Nat → Prop) (S : Sch) (m : Value) (r : Int × List Ver × Int) (w : World) (e : Ending) (w' : World) : Prop :=
  ∃ m' n', e = .returned (.tuple #[.agg #[.map (some m'), .int .i64 r.2.2], .int .i64 n', .int .i64 r.1]) ∧ (n' = if r.1 = 0 then r.2.2 else 0) ∧ (r.1 ≠ 0 → .map (some m') = m) ∧ StM P S w' (.map (some m')) r.2.1 ∧ Below w.heap.size w w'
theorem snCommit_all (h : StM P S w m V) (hPn : ∀ b, w.heap.size ≤ b → P b) (hg : Good V l B) (hB : B ≤ 500) (h64 : V.length < 64) (hSl : S.length ≤ 1000000) (A : Option Addr) (C : Nat) (us : List Upd) (hU : UpdsM w.heap.size w A us) (hok : ∀ u ∈ us, UpdOk u) (hul : us.length ≤ 1000000) :
    Calls Try.prog 11 #[.agg #[m, .int .i64 l], .slice A us.length C] w (CommitPost P S m (commitR S V l us) w) := by
  obtain ⟨x, hf, hx, hxl⟩ := hg.find
  have hdb : dbV V l = x.db := by unfold dbV; rw [hf]
  have hlo := hg.low
  have hhi := hg.high
  have hb' : (B : Int) + 300 ≤ 1000000000000000000 := by omega
  refine (snCommit_any h hPn hx hxl h64 ⟨hlo, by omega⟩ hSl A C us hU hok hul).mono fun e w' hh => ?_
  obtain ⟨h1, h2, h3⟩ := hh
  unfold commitR
  rw [hdb]
  by_cases h0 : (applyF S x.db 0 us).1 = 0
  · obtain ⟨m', e1, hs⟩ := h1 h0
    obtain ⟨bd, rfl⟩ := hs.form
    rw [if_pos h0]
    exact ⟨bd, _, e1, rfl, fun hh => absurd rfl hh, hs, h3⟩
  · have e1 := h2 h0
    obtain ⟨b, rfl⟩ := h.form
    rw [if_neg h0]
    exact ⟨b, 0, e1, (if_neg h0).symm, fun _ => rfl, h.up h3, h3⟩
end
end Go.Proofs.Ytgaffbdcpkbdhaa

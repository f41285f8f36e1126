/- Words and plain facts for the law SnapshotKeeps. -/
import Derived.Test.YtgaffbdcpkbdhaaHZ29
import Derived.Test.YtgaffbdcpkbdhaaHZ27
namespace Go.Proofs.Ytgaffbdcpkbdhaa
open Go.RowKit Go.Sort Go.ChangeMaps Go.WideShapes

/-- A version that is pinned, with this database. -/
def PinV (V : List Ver) (v : Int) (F : Cont) : Prop := ∃ x ∈ V, x.num = v ∧ 1 ≤ x.pins ∧ x.db = F
theorem PinV.pin {V : List Ver} {v : Int} {F : Cont} (h : PinV V v F) (hp : V.Pairwise (fun x y => x.num < y.num)) (n : Int) : PinV (pinR V n).2 v F := by
  obtain ⟨x, hx, e1, e2, e3⟩ := h
  unfold pinR
  cases hf : findV V n with
  | none => exact ⟨x, hx, e1, e2, e3⟩
  | some y =>
    obtain ⟨hy, e4⟩ := findV_some hf
    show PinV (putV V ⟨y.num, y.db, y.pins + 1⟩) v F
    by_cases e : x.num = y.num
    · have := num_inj hp hx hy e
      subst this
      exact ⟨_, (mem_putV _ hp _).2 (.inl rfl), e1, by show 1 ≤ x.pins + 1; omega, e3⟩
    · exact ⟨x, (mem_putV _ hp _).2 (.inr ⟨hx, e⟩), e1, e2, e3⟩
theorem PinV.unpin {V : List Ver} {v : Int} {F : Cont} (h : PinV V v F) (hp : V.Pairwise (fun x y => x.num < y.num)) {n : Int} (hn : n ≠ v) : PinV (unpinR V n).2 v F := by
  obtain ⟨x, hx, e1, e2, e3⟩ := h
  unfold unpinR
  cases hf : findV V n with
  | none => exact ⟨x, hx, e1, e2, e3⟩
  | some y =>
    obtain ⟨hy, e4⟩ := findV_some hf
    show PinV (if y.pins = 0 then ((17 : Int), V) else (0, putV V ⟨y.num, y.db, y.pins - 1⟩)).2 v F
    split
    · exact ⟨x, hx, e1, e2, e3⟩
    · exact ⟨x, (mem_putV _ hp _).2 (.inr ⟨hx, fun e => hn (by rw [← e4, ← e1]; exact e.symm)⟩), e1, e2, e3⟩
theorem PinV.commit {V : List Ver} {v l : Int} {F : Cont} {B : Nat} (h : PinV V v F) (hg : Good V l B) (hp : V.Pairwise (fun x y => x.num < y.num)) (S : Sch) (us : List Upd) : PinV (commitR S V l us).2.1 v F := by
  obtain ⟨x, hx, e1, e2, e3⟩ := h
  unfold commitR
  split
  · have := (hg.all x hx).1
    exact ⟨x, (mem_putV _ hp _).2 (.inr ⟨hx, by show x.num ≠ l + 1; omega⟩), e1, e2, e3⟩
  · exact ⟨x, hx, e1, e2, e3⟩
theorem PinV.gone {V : List Ver} {v l : Int} {F : Cont} (h : PinV V v F) : PinV (V.filter fun x => !goneB l x) v F := by
  obtain ⟨x, hx, e1, e2, e3⟩ := h
  refine ⟨x, List.mem_filter.2 ⟨hx, ?_⟩, e1, e2, e3⟩
  unfold goneB
  rw [decide_eq_false (show ¬ x.pins = 0 by omega), Bool.false_and]
  rfl
theorem PinV.first {V : List Ver} {l : Int} {x : Ver} {B : Nat} (hg : Good V l B) (hp : V.Pairwise (fun x y => x.num < y.num)) (hf : findV V l = some x) : pinR V l = (0, putV V ⟨x.num, x.db, x.pins + 1⟩) ∧ PinV (pinR V l).2 l x.db := by
  obtain ⟨hx, e⟩ := findV_some hf
  obtain ⟨_, _, c, _⟩ := hg.all x hx
  have h1 : pinR V l = (0, putV V ⟨x.num, x.db, x.pins + 1⟩) := by unfold pinR; rw [hf]
  exact ⟨h1, by rw [h1]; exact ⟨_, (mem_putV _ hp _).2 (.inl rfl), e, by show 1 ≤ x.pins + 1; omega, rfl⟩⟩
theorem PinV.find {V : List Ver} {v : Int} {F : Cont} (h : PinV V v F) (hp : V.Pairwise (fun x y => x.num < y.num)) : ∃ x, findV V v = some x ∧ x.db = F := by
  obtain ⟨x, hx, e1, e2, e3⟩ := h
  cases hf : findV V v with
  | none => exact absurd e1 (findV_none hf x hx)
  | some y =>
    obtain ⟨hy, e4⟩ := findV_some hf
    have := num_inj hp hx hy (e1.trans e4.symm)
    subst this
    exact ⟨_, rfl, e3⟩
theorem gone_again (V : List Ver) (l : Int) : ((V.filter fun x => !goneB l x).filter (goneB l)) = [] ∧ ((V.filter fun x => !goneB l x).filter fun x => !goneB l x) = V.filter fun x => !goneB l x := by
  refine ⟨List.filter_eq_nil_iff.2 fun x hx => ?_, List.filter_eq_self.2 fun x hx => (List.mem_filter.1 hx).2⟩
  have := (List.mem_filter.1 hx).2
  intro h
  rw [h] at this
  cases this
theorem sameC_refl (S : Sch) (F : Cont) : sameC S F F = true := List.all_eq_true.2 fun _p _ => decide_eq_true rfl

/-- What holds of the boxes g (the store) and h (the pinned database). -/
def KeepI (X : Sch) (g h : Nat) (B : Nat) (pinned : Bool) (v : Int) (w wx : World) : Prop :=
  ∃ (b : Nat) (l : Int) (V : List Ver) (mp : Value), Row wx g 31 [.map (some b), .int .i64 l] ∧ Row wx h 25 [mp] ∧ StM (fun b => b ≠ g ∧ b ≠ h) X wx (.map (some b)) V ∧ Good V l B ∧
    (pinned = true → ∃ F, PinV V v F ∧ DbM (fun b => b ≠ g ∧ b ≠ h) X wx mp F) ∧ Below w.heap.size w wx
theorem KeepI.up {X : Sch} {g h B : Nat} {p : Bool} {v : Int} {w wx wy : World} (k : KeepI X g h B p v w wx) (hb : Below wx.heap.size wx wy) : KeepI X g h B p v w wy := by
  obtain ⟨b, l, V, mp, h1, h2, h3, h4, h5, h6⟩ := k
  exact ⟨b, l, V, mp, h1.up hb, h2.up hb, h3.up hb, h4, fun hp => by obtain ⟨F, a, c⟩ := h5 hp; exact ⟨F, a, c.up hb⟩, Below.then h6 hb h6.size⟩
/-- A store put into its box. -/
theorem KeepI.put {X : Sch} {g h B : Nat} {p : Bool} {v : Int} {w wy : World} {u0 u1 : Value} {mp : Value} {b : Nat} {l : Int} {V : List Ver} (hgh : g ≠ h) (hgw : w.heap.size ≤ g) (h1 : Row wy g 31 [u0, u1]) (h2 : Row wy h 25 [mp]) (h3 : StM (fun b => b ≠ g ∧ b ≠ h) X wy (.map (some b)) V) (h4 : Good V l B)
    (h5 : p = true → ∃ F, PinV V v F ∧ DbM (fun b => b ≠ g ∧ b ≠ h) X wy mp F) (h6 : Below w.heap.size w wy) : KeepI X g h B p v w ((wy.setCell ⟨g, 0, none⟩ (.map (some b))).setCell ⟨g, 1, none⟩ (.int .i64 l)) := by
  have hs : Stay (fun b => b ≠ g ∧ b ≠ h) wy ((wy.setCell ⟨g, 0, none⟩ (.map (some b))).setCell ⟨g, 1, none⟩ (.int .i64 l)) := (Stay.set (fun e => e.1 rfl) 0 _).trans (Stay.set (fun e => e.1 rfl) 1 _)
  exact ⟨b, l, V, mp, h1.set2 _ _, (h2.far (show h ≠ g by omega) _).far (show h ≠ g by omega) _, h3.keep hs, h4, fun hp => by obtain ⟨F, a, c⟩ := h5 hp; exact ⟨F, a, c.keep hs⟩, (h6.setCell hgw _).setCell hgw _⟩

end Go.Proofs.Ytgaffbdcpkbdhaa

import Derived.Test.YtfiegiifoekfmaaRows
import Derived.Test.YtfiegiifoekfmaaBase
import Derived.Lib.SliceRun
namespace Go.Proofs.Ytfiegiifoekfmaa
open Go.RowKit

theorem add_pos (b o i : Nat) : (Addr.add ⟨b, o, none⟩ i) = ⟨b, o + i, none⟩ := by
  unfold Addr.add
  split
  · next h => subst h; rfl
  · rfl

/-- The cells of a slice that reads as xs, by 'Addr.add'. -/
theorem Sl.cells {B : Nat} {w : World} {ad : Addr} {xs : List Value} (h : Sl B w (some ad) xs) : ∀ j u, xs[j]? = some u → w.cell? (ad.add j) = some u := by
  intro j u hu
  obtain ⟨b, o, e, _, hc⟩ := h (by rintro rfl; simp at hu)
  injection e with e
  subst e
  rw [add_pos]
  exact hc j u hu

theorem intInfo : (Try.prog.info? 3).map (fun i => (i.zero, i.size, i.bytes)) = some (some (.int .i64 0), 1, 8) := by kernel_rfl
theorem u32Info : (Try.prog.info? 44).map (fun i => (i.zero, i.size, i.bytes)) = some (some (.int .u32 0), 1, 4) := by kernel_rfl

/-- append of one number to a row of the call's own. -/
theorem app1Int {w : World} {ops : Array Oper} {rest : List Oper} {o : Oper} {a : Act} {Q : Exit → Act → World → Prop} (hgd : o.guard = none) (s x : Operand)
    (ho : o.op = .call { callee := .builtin .append, args := #[s, x], argTypes := #[25, 25] })
    (base : Nat) (v : Value) (n : Nat) (xs : List Value) (hs : a.eval s = v) (hown : w.ownsRow base 3 1 v n xs)
    (g : Nat) (z : Int) (hx : a.eval x = .slice (some ⟨g, 0, none⟩) 1 1) (hg : w.cell? ⟨g, 0, none⟩ = some (.int .i64 z))
    (hn : n ≤ 100000000) (hbase : base ≤ w.heap.size)
    (h : ∀ v' w', w'.ownsRow base 3 1 v' (n + 1) (xs ++ [.int .i64 z]) → w.grownBy w' v.ownBlock → wpList Try.prog ops Q rest (a.put o.dst v') w') : wpList Try.prog ops Q (o :: rest) a w := by
  obtain ⟨i0, hi0, hz0, hz1, hz2⟩ := info_parts intInfo
  refine wpList_append_own w hgd s x 25 ho base 3 i0 _ 1 8 Try.underlying25 hi0 hz0 hz1 hz2 rfl (by decide) v n xs hs hown ⟨g, 0, none⟩ 1 1 [.int .i64 z] hx rfl ?_ (by simp [Value.oneCell']) (by simp only [maxLen]; omega) (by omega) hbase fun v' w' h1 h2 _ => h v' w' h1 h2
  intro j u hu
  cases j with
  | zero => simp at hu; subst hu; exact hg
  | succ j => simp at hu

/-- append of one number to a row of the call's own. -/
theorem app1U32 {w : World} {ops : Array Oper} {rest : List Oper} {o : Oper} {a : Act} {Q : Exit → Act → World → Prop} (hgd : o.guard = none) (s x : Operand)
    (ho : o.op = .call { callee := .builtin .append, args := #[s, x], argTypes := #[22, 22] })
    (base : Nat) (v : Value) (n : Nat) (xs : List Value) (hs : a.eval s = v) (hown : w.ownsRow base 44 1 v n xs)
    (g : Nat) (z : Int) (hx : a.eval x = .slice (some ⟨g, 0, none⟩) 1 1) (hg : w.cell? ⟨g, 0, none⟩ = some (.int .u32 z))
    (hn : n ≤ 100000000) (hbase : base ≤ w.heap.size)
    (h : ∀ v' w', w'.ownsRow base 44 1 v' (n + 1) (xs ++ [.int .u32 z]) → w.grownBy w' v.ownBlock → wpList Try.prog ops Q rest (a.put o.dst v') w') : wpList Try.prog ops Q (o :: rest) a w := by
  obtain ⟨i0, hi0, hz0, hz1, hz2⟩ := info_parts u32Info
  refine wpList_append_own w hgd s x 22 ho base 44 i0 _ 1 4 Try.underlying22 hi0 hz0 hz1 hz2 rfl (by decide) v n xs hs hown ⟨g, 0, none⟩ 1 1 [.int .u32 z] hx rfl ?_ (by simp [Value.oneCell']) (by simp only [maxLen]; omega) (by omega) hbase fun v' w' h1 h2 _ => h v' w' h1 h2
  intro j u hu
  cases j with
  | zero => simp at hu; subst hu; exact hg
  | succ j => simp at hu

set_option maxHeartbeats 400000 in
theorem cloneInt_any (A : Option Addr) (c : Nat) (zs : List Int) (w : World) (hx : SlI .i64 w.heap.size w A zs) (hl : zs.length ≤ 1000000) :
    Calls Try.prog 24 #[.slice A zs.length c] w fun e w' => ∃ v, e = .returned v ∧ w'.ownsRow w.heap.size 3 1 v zs.length (zs.map (Value.int .i64)) ∧ Below w.heap.size w w' := by
  have hnil := fun w => Lib.run_eql_slice_nil (P := Try.prog) w 25 3 A zs.length c 0 0 Try.underlying25
  rcases A with _ | ad
  · have hz : zs = [] := by
      cases zs with
      | nil => rfl
      | cons z zs => obtain ⟨b, o, e, _⟩ := hx (by simp); cases e
    subst hz
    simp only [List.length_nil] at *
    clear hx
    go_enter Try.func24, Try.ntmps24
    go_wp2
    go_ret
    exact ⟨_, rfl, ⟨rfl, .inl ⟨rfl, rfl⟩⟩, Below.refl _ _⟩
  · obtain ⟨i0, hi0, hz0, hz1, hz2⟩ := info_parts intInfo
    have hcs := (hx.alloc (Nat.le_refl _) (.cells #[] 3)).cells
    have hown : (w.alloc (.cells #[] 3)).ownsRow w.heap.size 3 1 (.slice (some ⟨w.heap.size, 0, none⟩) 0 0) 0 [] := ⟨rfl, .inr ⟨w.heap.size, 0, #[], rfl, Nat.le_refl _, heap_alloc_new w _, Nat.le_refl _, by simp [maxLen], rfl, rfl⟩⟩
    have HC := Lib.hid hcs
    have HO := Lib.hid hown
    clear hcs hown hx
    go_enter Try.func24, Try.ntmps24
    go_wp2_with (at_builtin; refine wpList_append_own _ rfl (.tmp 5) (.tmp 6) 25 rfl w.heap.size 3 i0 _ 1 8 Try.underlying25 hi0 hz0 hz1 hz2 rfl (by decide) (.slice (some ⟨w.heap.size, 0, none⟩) 0 0) 0 [] rfl HO.out ad zs.length c (zs.map (Value.int .i64)) rfl (by simp) HC.out (by simp [Value.oneCell']) (by simp only [maxLen]; omega) (by omega) (by simp) ?_; intro v' w' hown' hg' hn'; have HO' := Lib.hid hown'; have HG := Lib.hid hg'; clear hown' hg' hn')
    go_ret
    have h1 := HO'.out
    simp only [Nat.zero_add, List.nil_append] at h1
    refine ⟨_, rfl, h1, ?_⟩
    refine ((Below.refl _ _).alloc (Nat.le_refl _) _).grown HG.out (by simp) ?_
    intro k hk
    simp [Value.ownBlock] at hk
    omega

set_option maxHeartbeats 400000 in
theorem cloneU32_any (A : Option Addr) (c : Nat) (zs : List Int) (w : World) (hx : SlI .u32 w.heap.size w A zs) (hl : zs.length ≤ 1000000) :
    Calls Try.prog 23 #[.slice A zs.length c] w fun e w' => ∃ v, e = .returned v ∧ w'.ownsRow w.heap.size 44 1 v zs.length (zs.map (Value.int .u32)) ∧ Below w.heap.size w w' := by
  have hnil := fun w => Lib.run_eql_slice_nil (P := Try.prog) w 22 44 A zs.length c 0 0 Try.underlying22
  rcases A with _ | ad
  · have hz : zs = [] := by
      cases zs with
      | nil => rfl
      | cons z zs => obtain ⟨b, o, e, _⟩ := hx (by simp); cases e
    subst hz
    simp only [List.length_nil] at *
    clear hx
    go_enter Try.func23, Try.ntmps23
    go_wp2
    go_ret
    exact ⟨_, rfl, ⟨rfl, .inl ⟨rfl, rfl⟩⟩, Below.refl _ _⟩
  · obtain ⟨i0, hi0, hz0, hz1, hz2⟩ := info_parts u32Info
    have hcs := (hx.alloc (Nat.le_refl _) (.cells #[] 44)).cells
    have hown : (w.alloc (.cells #[] 44)).ownsRow w.heap.size 44 1 (.slice (some ⟨w.heap.size, 0, none⟩) 0 0) 0 [] := ⟨rfl, .inr ⟨w.heap.size, 0, #[], rfl, Nat.le_refl _, heap_alloc_new w _, Nat.le_refl _, by simp [maxLen], rfl, rfl⟩⟩
    have HC := Lib.hid hcs
    have HO := Lib.hid hown
    clear hcs hown hx
    go_enter Try.func23, Try.ntmps23
    go_wp2_with (at_builtin; refine wpList_append_own _ rfl (.tmp 5) (.tmp 6) 22 rfl w.heap.size 44 i0 _ 1 4 Try.underlying22 hi0 hz0 hz1 hz2 rfl (by decide) (.slice (some ⟨w.heap.size, 0, none⟩) 0 0) 0 [] rfl HO.out ad zs.length c (zs.map (Value.int .u32)) rfl (by simp) HC.out (by simp [Value.oneCell']) (by simp only [maxLen]; omega) (by omega) (by simp) ?_; intro v' w' hown' hg' hn'; have HO' := Lib.hid hown'; have HG := Lib.hid hg'; clear hown' hg' hn')
    go_ret
    have h1 := HO'.out
    simp only [Nat.zero_add, List.nil_append] at h1
    refine ⟨_, rfl, h1, ?_⟩
    refine ((Below.refl _ _).alloc (Nat.le_refl _) _).grown HG.out (by simp) ?_
    intro k hk
    simp [Value.ownBlock] at hk
    omega

end Go.Proofs.Ytfiegiifoekfmaa

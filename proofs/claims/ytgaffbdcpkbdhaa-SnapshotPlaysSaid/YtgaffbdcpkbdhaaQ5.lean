/- Parts of the proof, merged: Z15, Z16, ShelfV, Z17, Z18, V29, W2, Z29, Z22. -/
import Derived.Test.YtgaffbdcpkbdhaaQ4
import Derived.Sort.MapsRangeIn
import Derived.Shelf.SlIterI.Nil
import Derived.Shelf.SortM.Plain
import Derived.Shelf.SortM.SortNone
import Derived.Test.YtgaffbdcpkbdhaaProg
import Derived.Sort.OwnSortedInts
import Derived.Shelf.AbstractIn
import Derived.Deep.DeepCutAuto
import Derived.Test.YtgaffbdcpkbdhaaQ2
import Derived.Test.YtgaffbdcpkbdhaaRows
import Derived.Test.YtgaffbdcpkbdhaaQ1

section
/- Walk: the reference's Same. -/
namespace Go.Proofs.Ytgaffbdcpkbdhaa
open Go.RowKit Go.Sort Go.ChangeMaps Go.WideShapes

set_option maxHeartbeats 2000000 in
set_option maxRecDepth 100000 in
theorem r16Same_any (XA YA : Option Addr) (XC YC : Nat) (xs ys : List Int) (w : World) (hx : SlI .i64 w.heap.size w XA xs) (hy : SlI .i64 w.heap.size w YA ys) (hxl : xs.length ≤ 1000000) (_hyl : ys.length ≤ 1000000) :
    Calls Try.prog 20 #[.slice XA xs.length XC, .slice YA ys.length YC] w fun e w' => e = .returned (.bool (decide (xs = ys))) ∧ Ext w w' := by
  have HX := Lib.hid hx
  have HY := Lib.hid hy
  clear hx hy
  by_cases hl : xs.length = ys.length
  rotate_left
  · have hne : ((xs.length : Int) != (ys.length : Int)) = true := by
      have : (xs.length : Int) ≠ (ys.length : Int) := by omega
      simpa using this
    have hd : decide (xs = ys) = false := decide_eq_false (fun e => hl (by rw [e]))
    rw [hd]
    clear hl hd
    go_enter Try.func20, Try.ntmps20
    go_wp2
    go_ret
    exact ⟨rfl, Ext.refl _⟩
  have hne : ((xs.length : Int) != (ys.length : Int)) = false := by rw [hl]; simp
  have HL := Lib.hid hl
  clear hl
  go_enter Try.func20, Try.ntmps20
  go_wp2_with fail
  go_loopw [5] (fun c wx => ∃ k : Nat, k ≤ xs.length ∧ c = .int .i64 k ∧ xs.take k = ys.take k ∧ Ext w wx) (fun c _ => xs.length - (intOf c).toNat)
  case atStart => exact ⟨0, Nat.zero_le _, rfl, rfl, Ext.refl _⟩
  case round =>
    obtain ⟨k, hk, rfl, hall, hxr⟩ := hrel
    have HALL := Lib.hid hall
    have HXR := Lib.hid hxr
    clear hall hxr
    by_cases hkl : k < xs.length
    · have hky : k < ys.length := by have := HL.out; omega
      obtain ⟨xb, xo, rfl, hxb, hxc⟩ := HX.out (by intro h0; rw [List.map_eq_nil_iff.1 h0] at hkl; simp at hkl)
      obtain ⟨yb, yo, rfl, hyb, hyc⟩ := HY.out (by intro h0; rw [List.map_eq_nil_iff.1 h0] at hky; simp at hky)
      have c1 := (HXR.out.cell hxb).trans (hxc k (.int .i64 xs[k]) (by rw [List.getElem?_map, List.getElem?_eq_getElem hkl]; rfl))
      have c2 := (HXR.out.cell hyb).trans (hyc k (.int .i64 ys[k]) (by rw [List.getElem?_map, List.getElem?_eq_getElem hky]; rfl))
      have b1 := Nat.lt_of_lt_of_le hxb HXR.out.size
      have b2 := Nat.lt_of_lt_of_le hyb HXR.out.size
      have g1 : (0 : Int) ≤ (k : Int) := by omega
      have g2 : (k : Int) < (xs.length : Int) := by omega
      have g3 : (k : Int) < (ys.length : Int) := by omega
      have hw1 : IntKind.i64.wrap ((k : Int) + 1) = ((k + 1 : Nat) : Int) := by rw [IntWalk.i64_in _ (by omega)]; omega
      have HK1 : Hid (xs[k] = ys[k] → xs.take (k + 1) = ys.take (k + 1)) := fun e => by
        rw [List.take_succ_eq_append_getElem hkl, List.take_succ_eq_append_getElem hky, HALL.out, e]
      have HK2 : Hid (xs[k] ≠ ys[k] → xs ≠ ys) := fun e h => e (by simp only [h])
      clear hxc hyc
      generalize xs[k] = x at *
      generalize ys[k] = y at *
      by_cases he : x = y
      · have hb : (x != y) = false := by rw [he]; simp
        have HK := Lib.hid (HK1.out he)
        clear he HK1 HK2
        go_upto_region 6 with (fail)
        refine wp_region_held_drew (S := (fun w' => w'.cell? ⟨xb, xo + k, none⟩ = some (.int .i64 x) ∧ w'.cell? ⟨yb, yo + k, none⟩ = some (.int .i64 y))) (by kernel_rfl) ⟨c1, c2⟩ (fun hHeld => ?_)
        refine takeOp (i := 0) (v := ?_) (some 17) rfl rfl (by kernel_rfl) (by kernel_rfl) (by kernel_rfl) (fun _ _ _ h => h) (Or.inl ⟨by rfl, ?_⟩) (by assumption) ?_
        rotate_left 1
        · (intro w0 hSw; (try dsimp only at hSw); go_simp; try (with_reducible rfl))
        try simp only [Act.put]
        try simp only [List.setIfInBounds_toArray]
        try simp only [List.set_cons_succ]
        try simp only [List.set_cons_zero]
        refine takeOp (i := 1) (v := ?_) (some 18) rfl rfl (by kernel_rfl) (by kernel_rfl) (by kernel_rfl) (fun _ _ _ h => h) (Or.inl ⟨by rfl, ?_⟩) (by assumption) ?_
        rotate_left 1
        · (intro w0 hSw; (try dsimp only at hSw); go_simp; try (with_reducible rfl))
        try simp only [Act.put]
        try simp only [List.setIfInBounds_toArray]
        try simp only [List.set_cons_succ]
        try simp only [List.set_cons_zero]
        refine takeOp (i := 2) (v := ?_) (some 19) rfl rfl (by kernel_rfl) (by kernel_rfl) (by kernel_rfl) (fun _ _ _ h => h) (Or.inl ⟨by rfl, ?_⟩) (by assumption) ?_
        rotate_left 1
        · (intro w0 hSw; (try dsimp only at hSw); go_simp; try (with_reducible rfl))
        try simp only [Act.put]
        try simp only [List.setIfInBounds_toArray]
        try simp only [List.set_cons_succ]
        try simp only [List.set_cons_zero]
        refine takeOp (i := 3) (v := ?_) (some 20) rfl rfl (by kernel_rfl) (by kernel_rfl) (by kernel_rfl) (fun _ _ _ h => h) (Or.inl ⟨by rfl, ?_⟩) (by assumption) ?_
        rotate_left 1
        · (intro w0 hSw; (try dsimp only at hSw); go_simp; try (with_reducible rfl))
        try simp only [Act.put]
        try simp only [List.setIfInBounds_toArray]
        try simp only [List.set_cons_succ]
        try simp only [List.set_cons_zero]
        refine takeOp (i := 4) (v := ?_) (some 21) rfl rfl (by kernel_rfl) (by kernel_rfl) (by kernel_rfl) (fun _ _ _ h => h) (Or.inl ⟨by rfl, ?_⟩) (by assumption) ?_
        rotate_left 1
        · (intro w0 hSw; (try dsimp only at hSw); go_simp; try (with_reducible rfl))
        try simp only [Act.put]
        try simp only [List.setIfInBounds_toArray]
        try simp only [List.set_cons_succ]
        try simp only [List.set_cons_zero]
        refine takeOp (i := 5) (v := ?_) (some 22) rfl rfl (by kernel_rfl) (by kernel_rfl) (by kernel_rfl) (fun _ _ _ h => h) (Or.inl ⟨by rfl, ?_⟩) (by assumption) ?_
        rotate_left 1
        · (intro w0 hSw; (try dsimp only at hSw); go_simp; try (with_reducible rfl))
        try simp only [Act.put]
        try simp only [List.setIfInBounds_toArray]
        try simp only [List.set_cons_succ]
        try simp only [List.set_cons_zero]
        refine takeOp (i := 6) (v := ?_) (some 23) rfl rfl (by kernel_rfl) (by kernel_rfl) (by kernel_rfl) (fun _ _ _ h => h) (Or.inl ⟨by rfl, ?_⟩) (by assumption) ?_
        rotate_left 1
        · (intro w0 hSw; (try dsimp only at hSw); go_simp; try (with_reducible rfl))
        try simp only [Act.put]
        try simp only [List.setIfInBounds_toArray]
        try simp only [List.set_cons_succ]
        try simp only [List.set_cons_zero]
        refine takeOp (i := 7) (v := ?_) (some 24) rfl rfl (by kernel_rfl) (by kernel_rfl) (by kernel_rfl) (fun _ _ _ h => h) (Or.inl ⟨by rfl, ?_⟩) (by assumption) ?_
        rotate_left 1
        · (intro w0 hSw; (try dsimp only at hSw); go_simp; try (with_reducible rfl))
        try simp only [Act.put]
        try simp only [List.setIfInBounds_toArray]
        try simp only [List.set_cons_succ]
        try simp only [List.set_cons_zero]
        refine takeOp (i := 8) (v := ?_) (some 25) rfl rfl (by kernel_rfl) (by kernel_rfl) (by kernel_rfl) (fun _ _ _ h => h) (Or.inl ⟨by rfl, ?_⟩) (by assumption) ?_
        rotate_left 1
        · (intro w0 hSw; (try dsimp only at hSw); go_simp; try (with_reducible rfl))
        try simp only [Act.put]
        try simp only [List.setIfInBounds_toArray]
        try simp only [List.set_cons_succ]
        try simp only [List.set_cons_zero]
        refine wpAnyH_done (by kernel_rfl) ?_ _
        go_wp2
        go_roundw
        case rel => exact ⟨k + 1, hkl, by go_num, HK.out, HXR.out.drew⟩
        case measure => simp [intOf]; omega
      · have hb : (x != y) = true := by simpa using he
        have HK := Lib.hid (HK2.out he)
        clear he HK1 HK2
        go_upto_region 6 with (fail)
        refine wp_region_held_drew (S := (fun w' => w'.cell? ⟨xb, xo + k, none⟩ = some (.int .i64 x) ∧ w'.cell? ⟨yb, yo + k, none⟩ = some (.int .i64 y))) (by kernel_rfl) ⟨c1, c2⟩ (fun hHeld => ?_)
        refine takeOp (i := 0) (v := ?_) (some 17) rfl rfl (by kernel_rfl) (by kernel_rfl) (by kernel_rfl) (fun _ _ _ h => h) (Or.inl ⟨by rfl, ?_⟩) (by assumption) ?_
        rotate_left 1
        · (intro w0 hSw; (try dsimp only at hSw); go_simp; try (with_reducible rfl))
        try simp only [Act.put]
        try simp only [List.setIfInBounds_toArray]
        try simp only [List.set_cons_succ]
        try simp only [List.set_cons_zero]
        refine takeOp (i := 1) (v := ?_) (some 18) rfl rfl (by kernel_rfl) (by kernel_rfl) (by kernel_rfl) (fun _ _ _ h => h) (Or.inl ⟨by rfl, ?_⟩) (by assumption) ?_
        rotate_left 1
        · (intro w0 hSw; (try dsimp only at hSw); go_simp; try (with_reducible rfl))
        try simp only [Act.put]
        try simp only [List.setIfInBounds_toArray]
        try simp only [List.set_cons_succ]
        try simp only [List.set_cons_zero]
        refine takeOp (i := 2) (v := ?_) (some 19) rfl rfl (by kernel_rfl) (by kernel_rfl) (by kernel_rfl) (fun _ _ _ h => h) (Or.inl ⟨by rfl, ?_⟩) (by assumption) ?_
        rotate_left 1
        · (intro w0 hSw; (try dsimp only at hSw); go_simp; try (with_reducible rfl))
        try simp only [Act.put]
        try simp only [List.setIfInBounds_toArray]
        try simp only [List.set_cons_succ]
        try simp only [List.set_cons_zero]
        refine takeOp (i := 3) (v := ?_) (some 20) rfl rfl (by kernel_rfl) (by kernel_rfl) (by kernel_rfl) (fun _ _ _ h => h) (Or.inl ⟨by rfl, ?_⟩) (by assumption) ?_
        rotate_left 1
        · (intro w0 hSw; (try dsimp only at hSw); go_simp; try (with_reducible rfl))
        try simp only [Act.put]
        try simp only [List.setIfInBounds_toArray]
        try simp only [List.set_cons_succ]
        try simp only [List.set_cons_zero]
        refine takeOp (i := 4) (v := ?_) (some 21) rfl rfl (by kernel_rfl) (by kernel_rfl) (by kernel_rfl) (fun _ _ _ h => h) (Or.inl ⟨by rfl, ?_⟩) (by assumption) ?_
        rotate_left 1
        · (intro w0 hSw; (try dsimp only at hSw); go_simp; try (with_reducible rfl))
        try simp only [Act.put]
        try simp only [List.setIfInBounds_toArray]
        try simp only [List.set_cons_succ]
        try simp only [List.set_cons_zero]
        refine takeOp (i := 5) (v := ?_) (some 22) rfl rfl (by kernel_rfl) (by kernel_rfl) (by kernel_rfl) (fun _ _ _ h => h) (Or.inl ⟨by rfl, ?_⟩) (by assumption) ?_
        rotate_left 1
        · (intro w0 hSw; (try dsimp only at hSw); go_simp; try (with_reducible rfl))
        try simp only [Act.put]
        try simp only [List.setIfInBounds_toArray]
        try simp only [List.set_cons_succ]
        try simp only [List.set_cons_zero]
        refine takeOp (i := 6) (v := ?_) (some 23) rfl rfl (by kernel_rfl) (by kernel_rfl) (by kernel_rfl) (fun _ _ _ h => h) (Or.inl ⟨by rfl, ?_⟩) (by assumption) ?_
        rotate_left 1
        · (intro w0 hSw; (try dsimp only at hSw); go_simp; try (with_reducible rfl))
        try simp only [Act.put]
        try simp only [List.setIfInBounds_toArray]
        try simp only [List.set_cons_succ]
        try simp only [List.set_cons_zero]
        refine takeOp (i := 7) (v := ?_) (some 24) rfl rfl (by kernel_rfl) (by kernel_rfl) (by kernel_rfl) (fun _ _ _ h => h) (Or.inl ⟨by rfl, ?_⟩) (by assumption) ?_
        rotate_left 1
        · (intro w0 hSw; (try dsimp only at hSw); go_simp; try (with_reducible rfl))
        try simp only [Act.put]
        try simp only [List.setIfInBounds_toArray]
        try simp only [List.set_cons_succ]
        try simp only [List.set_cons_zero]
        refine takeOp (i := 8) (v := ?_) (some 25) rfl rfl (by kernel_rfl) (by kernel_rfl) (by kernel_rfl) (fun _ _ _ h => h) (Or.inl ⟨by rfl, ?_⟩) (by assumption) ?_
        rotate_left 1
        · (intro w0 hSw; (try dsimp only at hSw); go_simp; try (with_reducible rfl))
        try simp only [Act.put]
        try simp only [List.setIfInBounds_toArray]
        try simp only [List.set_cons_succ]
        try simp only [List.set_cons_zero]
        refine wpAnyH_done (by kernel_rfl) ?_ _
        go_wp2
        exact bodyPost_ret (v := .bool false) (by simp [results, Try.results20, go_sem]) rfl ⟨by rw [decide_eq_false HK.out], HXR.out.drew⟩
    · obtain rfl : k = xs.length := by omega
      have HE : Hid (xs = ys) := by
        have h := HALL.out
        rw [List.take_length, HL.out, List.take_length] at h
        exact h
      go_wp2
      exact bodyPost_ret (v := .bool true) (by simp [results, Try.results20, go_sem]) rfl ⟨by rw [decide_eq_true HE.out], HXR.out⟩

end Go.Proofs.Ytgaffbdcpkbdhaa
end

section
/- Walk: catalog.Rows. -/
namespace Go.Proofs.Ytgaffbdcpkbdhaa
open Go.RowKit Go.Sort Go.ChangeMaps Go.WideShapes

/-- The rows of the relations that are left. -/
def sumL : Sch → Cont → (Lit → Bool) → Nat
  | [], _, _ => 0
  | q :: t, F, left => (if left (litS q.1) = true then (F q.1).length else 0) + sumL t F left
theorem sumL_none (F : Cont) (left : Lit → Bool) (h : ∀ k, left k = false) : ∀ S : Sch, sumL S F left = 0
  | [] => rfl
  | q :: t => by rw [sumL, sumL_none F left h t, h, if_neg (by decide)]
theorem strike_ne {s t : ByteArray} (h : s ≠ t) : (litS s).sameKey (litS t) = false := Maps.sameKey_ne (fun e => h (litS_inj e))
theorem sumL_congr (F : Cont) (left left' : Lit → Bool) : ∀ S : Sch, (∀ p ∈ S, left (litS p.1) = left' (litS p.1)) → sumL S F left = sumL S F left'
  | [], _ => rfl
  | q :: t, h => by rw [sumL, sumL, h q List.mem_cons_self, sumL_congr F left left' t fun p hp => h p (List.mem_cons_of_mem _ hp)]
theorem sumL_step : ∀ (S : Sch) (F : Cont) (left : Lit → Bool) (p : ByteArray × List Int), (S.map Prod.fst).Nodup → p ∈ S → left (litS p.1) = true → sumL S F left = (F p.1).length + sumL S F (fun z => left z && !z.sameKey (litS p.1))
  | q :: t, F, left, p, hn, hp, hl => by
    rw [List.map_cons, List.nodup_cons] at hn
    have hsame : (litS p.1).sameKey (litS p.1) = true := WideAt.sameKey_self (isKeyS _)
    rw [sumL, sumL]
    rcases List.mem_cons.1 hp with rfl | hp
    · have ht : sumL t F (fun z => left z && !z.sameKey (litS p.1)) = sumL t F left := sumL_congr F _ _ t fun r hr => by
        have hne : r.1 ≠ p.1 := fun e => hn.1 (by rw [← e]; exact List.mem_map.2 ⟨r, hr, rfl⟩)
        show (left (litS r.1) && !(litS r.1).sameKey (litS p.1)) = _
        rw [strike_ne hne]
        simp
      rw [ht, if_pos hl]
      show _ = (F p.1).length + ((if (left (litS p.1) && !(litS p.1).sameKey (litS p.1)) = true then _ else 0) + _)
      rw [hsame, if_neg (by simp), Nat.zero_add]
    · have ih := sumL_step t F left p hn.2 hp hl
      have hne : q.1 ≠ p.1 := fun e => hn.1 (by rw [e]; exact List.mem_map.2 ⟨p, hp, rfl⟩)
      show _ = (F p.1).length + ((if (left (litS q.1) && !(litS q.1).sameKey (litS p.1)) = true then (F q.1).length else 0) + _)
      rw [strike_ne hne, ih, Bool.not_false, Bool.and_true]
      omega
theorem sumL_le (F : Cont) (left : Lit → Bool) : ∀ S : Sch, (∀ p ∈ S, (F p.1).length ≤ 4096) → sumL S F left ≤ S.length * 4096
  | [], _ => Nat.zero_le _
  | q :: t, h => by
    have h1 := h q List.mem_cons_self
    have h2 := sumL_le F left t fun p hp => h p (List.mem_cons_of_mem _ hp)
    rw [sumL, List.length_cons]
    split <;> omega
theorem ranges_up {k : TypeId} {w w' : World} {b r n : Nat} {D : DataW Value} {left : Lit → Bool} {cnt : Nat} (h : w.ranges Try.prog k heldR b r n D left cnt) (hb : Below w.heap.size w w') : w'.ranges Try.prog k heldR b r n D left cnt := by
  have h1 := h.owns.lt
  have h2 := h.lt
  obtain ⟨es, clock, since, seen, c0, g1, F, hs, hD, g2, rest⟩ := h
  exact ⟨es, clock, since, seen, c0, (hb.block b h1).trans g1, F, hs, hD, (hb.block r h2).trans g2, rest⟩
/-- The rows of all relations. -/
def rowsF (S : Sch) (F : Cont) : Nat := sumL S F fun _ => true

set_option maxHeartbeats 4000000 in
set_option maxRecDepth 100000 in
theorem ctRows_any {P : Nat → Prop} {S : Sch} {m : Value} {F : Cont} (w : World) (hd : DbM P S w m F) (hnd : (S.map Prod.fst).Nodup) (hS : S.length ≤ 1000000) :
    Calls Try.prog 25 #[.agg #[m]] w fun e w' => e = .returned (.int .i64 (rowsF S F)) ∧ Below w.heap.size w w' := by
  obtain ⟨b, D, rfl, -, hown, hent⟩ := hd.ents
  obtain ⟨W0, hW0⟩ : ∃ W0, W0 = w.alloc (.cells #[.map (some b)] 25) := ⟨_, rfl⟩
  have hr1 : Row W0 w.heap.size 25 [.map (some b)] := by rw [hW0]; exact Row.new w 25 _
  have hx0 : Ext w W0 := by rw [hW0]; exact (Ext.refl w).alloc _
  have f0 : W0.cell? ⟨w.heap.size, 0, none⟩ = some (.map (some b)) := hr1.cell 0
  have z0 := hr1.lt
  have hml : ∀ p ∈ S, (F p.1).length ≤ 4096 := fun p hp => by
    obtain ⟨v, _, _, _, _, _, _, _, _, _, _, _, hro⟩ := hent.2.2 p hp
    exact hro.many
  have HSUM : Hid (∀ left, sumL S F left ≤ 4096000000) := fun left => by have := sumL_le F left S hml; omega
  have HENT := Lib.hid hent
  have HOW := Lib.hid (map_up hown hx0.below)
  have HX0 := Lib.hid hx0
  have HND := Lib.hid hnd
  have HTOT : Hid (sumL S F (Maps.has D) = rowsF S F) := sumL_congr F _ _ S fun p hp => by
    obtain ⟨v, g, _⟩ := hent.2.2 p hp
    exact Maps.has_true_of_atKey g
  clear hd hown hent hnd hr1 hx0 hml hS
  go_enter Try.func25, Try.ntmps25
  go_upto_region 1 with (fail)
  rw [← hW0]
  clear hW0
  go_wp2_with (first
    | (at_range; refine wpList_range_own _ rfl _ 23 rfl 9 80 keyedS Try.underlying23 heldR b (Maps.size D) D rfl HOW.out ?_; intro w0 hrg0 hg0 hs0)
    | fail)
  go_frame
  have HRG0 := Lib.hid hrg0
  have HB0 : Hid (Below w.heap.size w w0) := HX0.out.below.grown hg0 HX0.out.size (fun j hj => by cases hj)
  obtain ⟨r, hr⟩ : ∃ r, r = W0.heap.size := ⟨_, rfl⟩
  rw [← hr] at HRG0 ⊢
  have hrw : w.heap.size ≤ r := by rw [hr]; exact HX0.out.size
  clear hrg0 hg0 hs0 hr
  go_loopw [3] (fun c wx => ∃ (left : Lit → Bool) (cnt n : Nat), c = .int .i64 n ∧ n + sumL S F left = rowsF S F ∧ wx.ranges Try.prog 9 heldR b r (Maps.size D) D left cnt ∧ Below w.heap.size w wx) (fun _ wx => wx.rangeLeft b r)
  case atStart => exact ⟨_, _, 0, rfl, by rw [Nat.zero_add]; exact HTOT.out, HRG0.out, HB0.out⟩
  case round =>
    obtain ⟨left, cnt, n, rfl, hn, hrg, hb⟩ := hrel
    have HN := Lib.hid hn
    have HRG := Lib.hid hrg
    have HB := Lib.hid hb
    clear hn hb
    go_wp2_with (first
      | (at_next; refine wpList_next_ranges _ rfl _ rfl 9 keyedS heldR Value.string (fun v : Value => v) (fun key kl h => by obtain ⟨x, e⟩ := Maps.keyOf_string_inv Try.underlying9 h; exact ⟨x, e⟩) (fun v y _ => ⟨v, rfl⟩) b r (Maps.size D) D left cnt rfl HRG.out ?_ ?_)
      | fail)
    · intro hc0 hl0
      have HF : Hid (n = rowsF S F) := by have h := HN.out; rw [sumL_none F left hl0 S] at h; exact h
      clear hc0 hl0 hrg
      go_wp2_with fail
      exact bodyPost_ret (v := .int .i64 (n : Nat)) (by simp [results, Try.results25, go_sem]) rfl ⟨by rw [HF.out], HB.out⟩
    · intro nm c kl y ps w1 cnt1 hkey hlk hv hat hrg1 hlt hg1 hs1 hen
      have hy : y = .held c := by
        unfold heldR at hv
        injection hv with hv
        injection hv with hv
        exact hv.symm
      have hat2 : ∀ z, D.atKey kl z = .held c := fun z => (hat z).trans hy
      obtain ⟨p, hp, rfl⟩ := HENT.out.2.1 kl (Maps.has_true_of_atKey hat2)
      obtain ⟨val, hv1, KA, KC, A, C, rfl, -, -, -, -, -, -⟩ := HENT.out.2.2 p hp
      have hcv : DataW.held c = .held (.agg #[.slice KA p.2.length KC, .int .i64 (p.2.length : Nat), .slice A (F p.1).length C]) := (hat2 .nil).symm.trans (hv1 .nil)
      injection hcv with hcv
      subst hcv
      have HSTEP := Lib.hid (sumL_step S F left p HND.out hp hlk)
      have HSM := Lib.hid (HSUM.out left)
      have HSM2 := Lib.hid (HSUM.out (Maps.has D))
      have HRG1 := Lib.hid hrg1
      have HB1 : Hid (Below w.heap.size w w1) := HB.out.grown hg1 HB.out.size (fun j hj => by injection hj with hj; omega)
      have HLE := Lib.hid (HRG.out.left_eq)
      have hlt2 := hlt
      clear hkey hlk hv hat hrg1 hg1 hs1 hy hat2 hp hv1 hrg hlt
      generalize p.2.length = kn at *
      obtain ⟨L, hL⟩ : ∃ L, L = (F p.1).length := ⟨_, rfl⟩
      rw [← hL] at hen HSTEP ⊢
      clear hL
      obtain ⟨W2, hW2⟩ : ∃ W2, W2 = w1.alloc (.cells #[.slice KA kn KC, .int .i64 (kn : Nat), .slice A L C] 80) := ⟨_, rfl⟩
      have hx2 : Ext w1 W2 := by rw [hW2]; exact (Ext.refl w1).alloc _
      have hr2 : Row W2 w1.heap.size 80 [.slice KA kn KC, .int .i64 (kn : Nat), .slice A L C] := by rw [hW2]; exact Row.new w1 80 _
      have e1 : W2.cell? ⟨w1.heap.size, 1, none⟩ = some (.int .i64 (kn : Nat)) := hr2.cell 1
      have e2 : W2.cell? ⟨w1.heap.size, 2, none⟩ = some (.slice A L C) := hr2.cell 2
      have e3 := hr2.lt
      have hNN := HN.out
      have hTT := HTOT.out
      have hS1 := HSM2.out
      have hSS := HSTEP.out
      have hwr : IntKind.i64.wrap ((n : Int) + (L : Int)) = ((n + L : Nat) : Int) := by rw [IntWalk.i64_in _ ⟨by omega, by omega⟩]; omega
      have HN2 : Hid (n + L + sumL S F (fun z => left z && !z.sameKey (litS p.1)) = rowsF S F) := by show _ = _; omega
      have HX2 := Lib.hid hx2
      have HW2 := Lib.hid hW2
      clear hx2 hr2 hNN hTT hS1 hSS hW2
      go_upto_region 5 with (fail)
      rw [← HW2.out]
      clear hen HW2
      go_wp2_with fail
      refine (rlLen_any (kn : Nat) A L C W2).mono ?_
      rintro e w3 ⟨rfl, hx3⟩
      have HB13 := Lib.hid (Below.then HX2.out.below hx3.below HX2.out.size)
      clear hx3 e1 e2 e3
      go_wp2_with fail
      go_roundw
      case rel => exact ⟨_, cnt1, n + L, by go_num, HN2.out, ranges_up HRG1.out HB13.out, Below.then HB1.out HB13.out HB1.out.size⟩
      case measure => rw [(ranges_up HRG1.out HB13.out).left_eq, HLE.out]; exact hlt2

end Go.Proofs.Ytgaffbdcpkbdhaa
end

section
/- Written by the kit's lay-plain for this seat: the shelf's tables of numbers. -/
namespace Go.Proofs
open Go.Shelf
def Ytgaffbdcpkbdhaa.keysV_ren : Go.Shelf.Ren := ⟨fun | 7 => 32 | 10 => 50 | n => n, fun | 23 => 29 | 26 => 3 | 3 => 87 | 28 => 93 | 0 => 0 | 27 => 92 | 33 => 115 | 4 => 4 | n => n, fun | n => n⟩
theorem Ytgaffbdcpkbdhaa.keysV : Go.Proofs.SlLaysZI.n7 Try.prog Ytgaffbdcpkbdhaa.keysV_ren := {
  mixed := by kernel_rfl
  f7 := ⟨Try.f32.name, by decide, Try.func32.trans (congrArg some (by kernel_rfl))⟩
  f10 := ⟨Try.f50.name, by decide, Try.func50.trans (congrArg some (by kernel_rfl))⟩
  t0 := Try.underlying0
  a0 := Try.isAgg0
  z0 := Try.sizeOf0
  v0 := Try.zeroValue0
  t4 := Try.underlying4
  a4 := Try.isAgg4
  z4 := Try.sizeOf4
  v4 := Try.zeroValue4
  t23 := Try.underlying29
  a23 := Try.isAgg29
  z23 := Try.sizeOf29
  v23 := Try.zeroValue29
  t26 := Try.underlying3
  a26 := Try.isAgg3
  z26 := Try.sizeOf3
  v26 := Try.zeroValue3
  t27 := Try.underlying92
  a27 := Try.isAgg92
  z27 := Try.sizeOf92
  v27 := Try.zeroValue92
  t28 := Try.underlying93
  a28 := Try.isAgg93
  z28 := Try.sizeOf93
  v28 := Try.zeroValue93
  t33 := Try.underlying115
  a33 := Try.isAgg115
  z33 := Try.sizeOf115
  v33 := Try.zeroValue115 }
def Ytgaffbdcpkbdhaa.sortedV_ren : Go.Shelf.Ren := ⟨fun | 6 => 31 | 8 => 49 | 9 => 34 | 11 => 61 | 13 => 53 | 12 => 52 | 23 => 71 | 24 => 72 | 14 => 62 | 15 => 63 | 16 => 64 | 17 => 65 | 18 => 66 | 19 => 67 | 20 => 68 | 21 => 69 | 22 => 70 | 25 => 79 | 26 => 80 | 27 => 81 | 28 => 82 | 29 => 83 | 30 => 84 | 31 => 89 | n => n, fun | 26 => 3 | 28 => 93 | 24 => 36 | 0 => 0 | 3 => 3 | 37 => 119 | 48 => 137 | 50 => 139 | 4 => 4 | 40 => 130 | 39 => 129 | 45 => 125 | 5 => 5 | 9 => 9 | 51 => 146 | 55 => 150 | 57 => 156 | 58 => 157 | 33 => 115 | n => n, fun | n => n⟩
theorem Ytgaffbdcpkbdhaa.sortedV : Go.Proofs.SlLaysZI.n6 Try.prog Ytgaffbdcpkbdhaa.sortedV_ren := {
  mixed := by kernel_rfl
  f6 := ⟨Try.f31.name, by decide, Try.func31.trans (congrArg some (by kernel_rfl))⟩
  f8 := ⟨Try.f49.name, by decide, Try.func49.trans (congrArg some (by kernel_rfl))⟩
  f11 := ⟨Try.f61.name, by decide, Try.func61.trans (congrArg some (by kernel_rfl))⟩
  t0 := Try.underlying0
  a0 := Try.isAgg0
  z0 := Try.sizeOf0
  v0 := Try.zeroValue0
  t24 := Try.underlying36
  a24 := Try.isAgg36
  z24 := Try.sizeOf36
  v24 := Try.zeroValue36
  t26 := Try.underlying3
  a26 := Try.isAgg3
  z26 := Try.sizeOf3
  v26 := Try.zeroValue3
  t28 := Try.underlying93
  a28 := Try.isAgg93
  z28 := Try.sizeOf93
  v28 := Try.zeroValue93
  i26 := by kernel_rfl }
def Ytgaffbdcpkbdhaa.sortV_ren : Go.Shelf.Ren := ⟨fun | 5 => 34 | 8 => 53 | 7 => 52 | 19 => 71 | 20 => 72 | 10 => 62 | 11 => 63 | 12 => 64 | 13 => 65 | 14 => 66 | 15 => 67 | 16 => 68 | 17 => 69 | 18 => 70 | 30 => 79 | 31 => 80 | 32 => 81 | 33 => 82 | 34 => 83 | 35 => 84 | 40 => 89 | n => n, fun | 23 => 36 | 25 => 3 | 3 => 3 | 32 => 119 | 22 => 36 | 0 => 0 | 44 => 137 | 46 => 139 | 4 => 4 | 36 => 130 | 35 => 129 | 41 => 125 | 5 => 5 | 9 => 9 | 53 => 146 | 57 => 150 | 63 => 156 | 64 => 157 | n => n, fun | n => n⟩
theorem Ytgaffbdcpkbdhaa.sortV : Go.Proofs.SlLaysM.n5 Try.prog Ytgaffbdcpkbdhaa.sortV_ren := {
  mixed := by kernel_rfl
  f5 := ⟨Try.f34.name, by decide, Try.func34.trans (congrArg some (by kernel_rfl))⟩
  f7 := ⟨Try.f52.name, by decide, Try.func52.trans (congrArg some (by kernel_rfl))⟩
  f8 := Try.func53.trans (congrArg some (by kernel_rfl))
  f10 := ⟨Try.f62.name, by decide, Try.func62.trans (congrArg some (by kernel_rfl))⟩
  f11 := ⟨Try.f63.name, by decide, Try.func63.trans (congrArg some (by kernel_rfl))⟩
  f12 := ⟨Try.f64.name, by decide, Try.func64.trans (congrArg some (by kernel_rfl))⟩
  f13 := ⟨Try.f65.name, by decide, Try.func65.trans (congrArg some (by kernel_rfl))⟩
  f14 := ⟨Try.f66.name, by decide, Try.func66.trans (congrArg some (by kernel_rfl))⟩
  f15 := ⟨Try.f67.name, by decide, Try.func67.trans (congrArg some (by kernel_rfl))⟩
  f16 := ⟨Try.f68.name, by decide, Try.func68.trans (congrArg some (by kernel_rfl))⟩
  f17 := ⟨Try.f69.name, by decide, Try.func69.trans (congrArg some (by kernel_rfl))⟩
  f18 := ⟨Try.f70.name, by decide, Try.func70.trans (congrArg some (by kernel_rfl))⟩
  f19 := Try.func71.trans (congrArg some (by kernel_rfl))
  f20 := Try.func72.trans (congrArg some (by kernel_rfl))
  f30 := ⟨Try.f79.name, by decide, Try.func79.trans (congrArg some (by kernel_rfl))⟩
  f31 := Try.func80.trans (congrArg some (by kernel_rfl))
  f32 := Try.func81.trans (congrArg some (by kernel_rfl))
  f33 := ⟨Try.f82.name, by decide, Try.func82.trans (congrArg some (by kernel_rfl))⟩
  f34 := ⟨Try.f83.name, by decide, Try.func83.trans (congrArg some (by kernel_rfl))⟩
  f35 := ⟨Try.f84.name, by decide, Try.func84.trans (congrArg some (by kernel_rfl))⟩
  f40 := ⟨Try.f89.name, by decide, Try.func89.trans (congrArg some (by kernel_rfl))⟩
  t0 := Try.underlying0
  a0 := Try.isAgg0
  z0 := Try.sizeOf0
  v0 := Try.zeroValue0
  t3 := Try.underlying3
  a3 := Try.isAgg3
  z3 := Try.sizeOf3
  v3 := Try.zeroValue3
  t4 := Try.underlying4
  a4 := Try.isAgg4
  z4 := Try.sizeOf4
  v4 := Try.zeroValue4
  t5 := Try.underlying5
  a5 := Try.isAgg5
  z5 := Try.sizeOf5
  v5 := Try.zeroValue5
  t9 := Try.underlying9
  a9 := Try.isAgg9
  z9 := Try.sizeOf9
  v9 := Try.zeroValue9
  t22 := Try.underlying36
  a22 := Try.isAgg36
  z22 := Try.sizeOf36
  v22 := Try.zeroValue36
  t23 := Try.underlying36
  a23 := Try.isAgg36
  z23 := Try.sizeOf36
  v23 := Try.zeroValue36
  t25 := Try.underlying3
  a25 := Try.isAgg3
  z25 := Try.sizeOf3
  v25 := Try.zeroValue3
  t32 := Try.underlying119
  a32 := Try.isAgg119
  z32 := Try.sizeOf119
  v32 := Try.zeroValue119
  t35 := Try.underlying129
  a35 := Try.isAgg129
  z35 := Try.sizeOf129
  v35 := Try.zeroValue129
  t36 := Try.underlying130
  a36 := Try.isAgg130
  z36 := Try.sizeOf130
  v36 := Try.zeroValue130
  t41 := Try.underlying125
  a41 := Try.isAgg125
  z41 := Try.sizeOf125
  v41 := Try.zeroValue125
  t44 := Try.underlying137
  a44 := Try.isAgg137
  z44 := Try.sizeOf137
  v44 := Try.zeroValue137
  t46 := Try.underlying139
  a46 := Try.isAgg139
  z46 := Try.sizeOf139
  v46 := Try.zeroValue139
  t53 := Try.underlying146
  a53 := Try.isAgg146
  z53 := Try.sizeOf146
  v53 := Try.zeroValue146
  t57 := Try.underlying150
  a57 := Try.isAgg150
  z57 := Try.sizeOf150
  v57 := Try.zeroValue150
  t63 := Try.underlying156
  a63 := Try.isAgg156
  z63 := Try.sizeOf156
  v63 := Try.zeroValue156
  t64 := Try.underlying157
  a64 := Try.isAgg157
  z64 := Try.sizeOf157
  v64 := Try.zeroValue157 }
end Go.Proofs
end

section
/- Walks: slices.Sort at int; snapshot.Versions. -/
namespace Go.Proofs
open Go.RowKit Go.Maps Go.Sort Go.Shelf

theorem Ytgaffbdcpkbdhaa.sortsV (m : Nat) : AnyZI.SortsIn Try.prog Ytgaffbdcpkbdhaa.sortedV_ren Fence.wide m :=
  ⟨fun blk off cap ss W hH hblk hsz => callsIn_wide.2 (AnyM.slices_Sort_int Ytgaffbdcpkbdhaa.sortV blk off cap ss W hH hblk hsz),
   fun p cap W => callsIn_wide.2 (AnyM.slices_Sort_int_none Ytgaffbdcpkbdhaa.sortV p cap W)⟩

theorem Ytgaffbdcpkbdhaa.sortInts_own (base : Nat) (v : Value) (n : Nat) (zs : List Int) (w : World) (hown : w.ownsRow base 3 1 v n (zs.map (Value.int .i64))) (hl : n < 4611686018427387904) :
    Calls Try.prog 34 #[v] w fun e w' => e = .returned (.tuple #[]) ∧ w'.ownsRow base 3 1 v n ((zs.mergeSort fun x y => decide (x ≤ y)).map (Value.int .i64)) ∧ w.grownBy w' v.ownBlock := by
  have hz : zs.length = n := by have := hown.1; simpa using this
  rcases hown.2 with ⟨rfl, h0⟩ | ⟨g, cap, cur, rfl, hg, hb, hn, hcap, hsz, ht⟩
  · refine (AnyM.slices_Sort_int_none Ytgaffbdcpkbdhaa.sortV none 0 w).mono ?_
    rintro e w' ⟨rfl, rfl⟩
    obtain rfl : zs = [] := List.eq_nil_of_length_eq_zero (by omega)
    exact ⟨rfl, by simpa using hown, ⟨rfl, rfl, rfl, Nat.le_refl _, fun _ _ _ => rfl⟩⟩
  · subst hz
    have hgl : g < w.heap.size := (Array.getElem?_eq_some_iff.1 hb).1
    refine (AnyM.slices_Sort_int Ytgaffbdcpkbdhaa.sortV g 0 cap zs w (holds_of_blockI hb (by rw [Nat.mul_one] at ht; exact ht)) hgl hl).mono ?_
    rintro e w' ⟨rfl, m, os, rfl⟩
    exact ⟨rfl, ownsRow_sortedI (by simp) hg hb hn hcap hsz, grownBy_sortedI _⟩

set_option maxHeartbeats 2000000 in
set_option maxRecDepth 100000 in
theorem Ytgaffbdcpkbdhaa.versions (b nn : Nat) (D0 : DataW Value) (R : Value → Option (DataW Value × List MemPlace)) (l : Int) (w : World) (hown : w.ownsMap Try.prog 3 R b nn D0) (hmax : Maps.size D0 ≤ maxLen) (hbytes : Maps.size D0 * 8 ≤ 140737488355328) :
    Calls Try.prog 12 #[.agg #[.map (some b), .int .i64 l]] w fun e w' => ∃ (v : Value) (ss : List Int), e = .returned v ∧ ss.Perm (intKeys D0) ∧
      w'.ownsRow w.heap.size 3 1 v ss.length ((ss.mergeSort (fun x y => decide (x ≤ y))).map encZ) ∧ (v = .slice none 0 0 ↔ ss = []) ∧ Below w.heap.size w w' := by
  refine (callsIn_wide (n := 6)).1 ?_
  have hbl := hown.lt
  obtain ⟨W0, hW0⟩ : ∃ W0, W0 = w.alloc (.cells #[.map (some b), .int .i64 l] 31) := ⟨_, rfl⟩
  have hb0 : Below w.heap.size w W0 := by rw [hW0]; exact (Below.refl _ w).alloc (Nat.le_refl _) _
  have hseq : SeqGives Fence.wide 2 Try.prog 50 #[.pointer (some ⟨W0.heap.size, 0, none⟩)] encZ (fun ss => ss.Perm (intKeys D0)) (Maps.size D0) (W0.alloc (.cells #[.map (some b)] 29)) :=
    AnyZI.keys_gives (ρ := Ytgaffbdcpkbdhaa.keysV_ren) { Ytgaffbdcpkbdhaa.keysV with } Fence.wide _ trivial rfl (by have := hb0.size; omega) W0.heap.size b nn D0 _ (by simp) (by simp) (by
      obtain ⟨es, clock, hb, Ft, hs, hD⟩ := hown
      exact ⟨es, clock, (Below.heap_alloc _ _ b (Nat.lt_of_lt_of_le hbl hb0.size)).trans ((hb0.block b hbl).trans hb), Ft, hs, hD⟩)
  have cK : ∀ mb W, CallsIn Fence.wide 5 Try.prog 32 #[.map mb] W fun e w' => e = .returned (.func (.func 50) #[] #[.pointer (some ⟨W.heap.size, 0, none⟩)]) ∧ w' = W.alloc (.cells #[.map mb] 29) := fun mb W => AnyZI.keys_in Ytgaffbdcpkbdhaa.keysV Fence.wide 5 trivial rfl mb W
  have cS := AnyZI.sorted_in Ytgaffbdcpkbdhaa.sortedV Fence.wide 5 trivial trivial trivial trivial rfl (by omega) (Ytgaffbdcpkbdhaa.sortsV _) (enters_of Try.func34 (by kernel_rfl) rfl) 50 #[.pointer (some ⟨W0.heap.size, 0, none⟩)] trivial (enters_of Try.func50 (by kernel_rfl) rfl) _ _ hmax hbytes _ hseq
  change CallsIn _ _ Try.prog 31 _ _ _ at cS
  have HW0 := Lib.hid hW0
  clear hW0
  have hfK : Fence.wide.fn 32 := trivial
  have hfS : Fence.wide.fn 31 := trivial
  refine callsIn_of_wp Try.func12 rfl trivial ?_ rfl
  simp only [Try.ntmps12, List.size_toArray, List.length_cons, List.length_nil, Nat.reduceAdd, Nat.reduceSub, Array.replicate_succ, Array.replicate_zero, List.push_toArray, List.append_toArray, List.nil_append, List.cons_append]
  gi_wp2_with (first
    | (gi_at_call 32; rw [← HW0.out]; refine (cK _ _).mono ?_; rintro e w' ⟨rfl, rfl⟩)
    | (gi_at_call 31; go_loud (refine cS.mono ?_); rintro e w' ⟨v, ss, rfl, hS, hrow, hnil, hb⟩))
  go_ret
  exact ⟨v, ss, rfl, hS, ownsRow_base_a hrow (by have := hb0.size; simp; omega), hnil, (hb0.trans ((Below.refl _ W0).alloc (Nat.le_refl _) _ |>.mono hb0.size)).trans (hb.mono (by have := hb0.size; simp; omega))⟩

theorem Ytgaffbdcpkbdhaa.versNums {P : Nat → Prop} {S : Ytgaffbdcpkbdhaa.Sch} {w : World} {b n : Nat} {D : DataW Value} {V : List Ytgaffbdcpkbdhaa.Ver} (hown : w.ownsMap Try.prog 3 Ytgaffbdcpkbdhaa.heldR b n D) (h4 : ∀ k, Maps.has D k = true → ∃ x ∈ V, k = Ytgaffbdcpkbdhaa.litI x.num) (h5 : Ytgaffbdcpkbdhaa.VersM P S w D V) (h6 : V.Pairwise (fun x y => x.num < y.num)) (ss : List Int) (hp : ss.Perm (intKeys D)) :
    (ss.mergeSort fun x y => decide (x ≤ y)) = V.map (·.num) := by
  obtain ⟨es, rfl, hpw, hkl⟩ := hown.entries Ytgaffbdcpkbdhaa.keyedI
  have hk : ∀ p ∈ es, ∃ x, p.1 = .int .i64 x := fun p hp => by
    have : Maps.has (.map es) p.1 = true := List.any_eq_true.2 ⟨p, hp, WideAt.sameKey_self (hkl p hp)⟩
    obtain ⟨x, _, e⟩ := h4 _ this
    exact ⟨x.num, e⟩
  have hnd : (V.map (·.num)).Nodup := List.pairwise_map.2 (h6.imp fun h => by omega)
  have hm : ∀ x, x ∈ V.map (·.num) ↔ Maps.has (.map es) (.int .i64 x) = true := fun x => by
    rw [show Maps.has (.map es) (.int .i64 x) = V.any fun y => y.num == x from Ytgaffbdcpkbdhaa.has_num h4 h5 x, List.any_eq_true, List.mem_map]
    constructor
    · rintro ⟨y, hy, rfl⟩; exact ⟨y, hy, by simp⟩
    · rintro ⟨y, hy, e⟩; exact ⟨y, hy, by simpa using e⟩
  have h := mergeSort_of_perm_i (hp.trans (perm_intKeys hpw hk hnd hm).symm)
  refine h.trans (List.mergeSort_of_pairwise (List.pairwise_map.2 (h6.imp fun h => decide_eq_true (by omega))))

end Go.Proofs
namespace Go.Proofs.Ytgaffbdcpkbdhaa
open Go.RowKit Go.Sort Go.ChangeMaps Go.WideShapes
theorem snVersions_any {P : Nat → Prop} {S : Sch} {m : Value} {l : Int} {V : List Ver} {w : World} (h : StM P S w m V) (hV : V.length ≤ 1000) :
    Calls Try.prog 12 #[.agg #[m, .int .i64 l]] w fun e w' => ∃ v, e = .returned v ∧ w'.ownsRow w.heap.size 3 1 v V.length ((V.map (·.num)).map (Value.int .i64)) ∧ Below w.heap.size w w' := by
  obtain ⟨b, D, rfl, -, hown, h3, h4, h5, h6⟩ := h
  refine (versions b _ D heldR l w hown (by rw [h3]; simp only [maxLen]; omega) (by rw [h3]; omega)).mono ?_
  rintro e w' ⟨v, ss, rfl, hp, hrow, -, hb⟩
  have e := versNums hown h4 h5 h6 ss hp
  have hl : ss.length = V.length := by
    have := congrArg List.length e
    rw [List.length_mergeSort, List.length_map] at this
    exact this
  rw [e, hl] at hrow
  exact ⟨v, rfl, hrow, hb⟩
end Go.Proofs.Ytgaffbdcpkbdhaa
end

section
/- Walk: snapshot.Collect. -/
namespace Go.Proofs.Ytgaffbdcpkbdhaa
open Go.RowKit Go.Sort Go.ChangeMaps Go.WideShapes

/-- The versions that a collection removes. -/
def goneB (l : Int) (x : Ver) : Bool := decide (x.pins = 0) && decide (x.num ≠ l)
def delAll (D : DataW Value) (zs : List Int) : DataW Value := zs.foldl (fun d x => d.del (litI x)) D
theorem delAll_snoc (D : DataW Value) (zs : List Int) (x : Int) : delAll D (zs ++ [x]) = (delAll D zs).del (litI x) := by unfold delAll; rw [List.foldl_append]; rfl
theorem num_inj : ∀ {V : List Ver}, V.Pairwise (fun x y => x.num < y.num) → ∀ {x y : Ver}, x ∈ V → y ∈ V → x.num = y.num → x = y
  | [], _, _, _, h, _, _ => by cases h
  | a :: t, hp, x, y, hx, hy, e => by
    obtain ⟨h1, h2⟩ := List.pairwise_cons.1 hp
    rcases List.mem_cons.1 hx with ex | hx1
    · rcases List.mem_cons.1 hy with ey | hy1
      · rw [ex, ey]
      · have := h1 y hy1; rw [ex] at e; omega
    · rcases List.mem_cons.1 hy with ey | hy1
      · have := h1 x hx1; rw [ey] at e; omega
      · exact num_inj h2 hx1 hy1 e
theorem sameI (x y : Int) : (litI x).sameKey (litI y) = decide (x = y) := by
  by_cases h : x = y
  · subst h
    rw [decide_eq_true rfl]
    exact WideAt.sameKey_self (isKeyI x)
  · rw [decide_eq_false h]
    exact Maps.sameKey_ne (fun e => h (litI_inj e))
theorem struck (left : Lit → Bool) (x n : Int) : (left (litI x) && !(litI x).sameKey (litI n)) = false ↔ left (litI x) = false ∨ x = n := by
  rw [sameI]
  by_cases h : x = n
  · simp [h]
  · simp [h]
theorem delAll_spec : ∀ (zs : List Int) (D : DataW Value), Maps.Tidy D → zs.Nodup → (∀ x ∈ zs, Maps.has D (litI x) = true) → Maps.Tidy (delAll D zs) ∧ Maps.size (delAll D zs) + zs.length = Maps.size D ∧ (∀ k, (∀ x ∈ zs, k ≠ litI x) → Maps.has (delAll D zs) k = Maps.has D k ∧ ∀ z, (delAll D zs).atKey k z = D.atKey k z) ∧ ∀ x ∈ zs, Maps.has (delAll D zs) (litI x) = false
  | [], D, ht, _, _ => ⟨ht, rfl, fun k _ => ⟨rfl, fun _ => rfl⟩, fun x hx => by cases hx⟩
  | a :: t, D, ht, hn, hh => by
    obtain ⟨hn1, hn2⟩ := List.nodup_cons.1 hn
    have hne : ∀ x ∈ t, litI x ≠ litI a := fun x hx e => hn1 (by rw [← litI_inj e]; exact hx)
    obtain ⟨h1, h2, h3, h4⟩ := delAll_spec t (D.del (litI a)) (ht.del _) hn2 fun x hx => by rw [Maps.has_del_other (hne x hx)]; exact hh x (List.mem_cons_of_mem _ hx)
    have hs := Maps.size_del (k := litI a) ht
    rw [hh a List.mem_cons_self, if_pos rfl] at hs
    refine ⟨h1, ?_, fun k hk => ?_, fun x hx => ?_⟩
    · show Maps.size (delAll (D.del (litI a)) t) + (t.length + 1) = _
      omega
    · obtain ⟨g1, g2⟩ := h3 k fun x hx => hk x (List.mem_cons_of_mem _ hx)
      have hka := hk a List.mem_cons_self
      exact ⟨g1.trans (Maps.has_del_other hka), fun z => (g2 z).trans (Maps.atKey_del_other hka z)⟩
    · rcases List.mem_cons.1 hx with rfl | hx
      · have := (h3 (litI x) fun y hy e => hne y hy e.symm).1
        exact this.trans Maps.has_del_same
      · exact h4 x hx
theorem parts_len (f : Ver → Bool) : ∀ V : List Ver, (V.filter f).length + (V.filter fun x => !f x).length = V.length
  | [] => rfl
  | a :: t => by
    have := parts_len f t
    cases h : f a
    · rw [List.filter_cons_of_neg (by rw [h]; decide), List.filter_cons_of_pos (by rw [h]; rfl), List.length_cons, List.length_cons]
      omega
    · rw [List.filter_cons_of_pos h, List.filter_cons_of_neg (by rw [h]; decide), List.length_cons, List.length_cons]
      omega
theorem gone_perm {V : List Ver} {l : Int} {zs : List Int} (h6 : V.Pairwise (fun x y => x.num < y.num)) (hnd : zs.Nodup) (hm : ∀ x, x ∈ zs ↔ ∃ y ∈ V, y.num = x ∧ goneB l y = true) : zs.Perm ((V.filter (goneB l)).map (·.num)) := by
  refine (List.perm_ext_iff_of_nodup hnd (List.pairwise_map.2 ((h6.filter _).imp fun h => by omega))).2 fun x => ?_
  rw [hm x, List.mem_map]
  constructor
  · rintro ⟨y, hy, e, h⟩; exact ⟨y, List.mem_filter.2 ⟨hy, h⟩, e⟩
  · rintro ⟨y, hy, e⟩; exact ⟨y, (List.mem_filter.1 hy).1, e, (List.mem_filter.1 hy).2⟩
theorem gone_sorted {V : List Ver} {l : Int} {zs : List Int} (h6 : V.Pairwise (fun x y => x.num < y.num)) (hp : zs.Perm ((V.filter (goneB l)).map (·.num))) : (zs.mergeSort fun x y => decide (x ≤ y)) = (V.filter (goneB l)).map (·.num) :=
  (mergeSort_of_perm_i hp).trans (List.mergeSort_of_pairwise (List.pairwise_map.2 ((h6.filter _).imp fun h => decide_eq_true (by omega))))
/-- The map behind the deletions. -/
theorem StM.collected {P : Nat → Prop} {S : Sch} {w' : World} {V : List Ver} {l : Int} {D : DataW Value} {zs : List Int} {bM n : Nat} (ht : Maps.Tidy D) (h3 : Maps.size D = V.length) (h4 : ∀ k, Maps.has D k = true → ∃ x ∈ V, k = litI x.num) (h5 : VersM P S w' D V) (h6 : V.Pairwise (fun x y => x.num < y.num)) (hnd : zs.Nodup) (hm : ∀ x, x ∈ zs ↔ ∃ y ∈ V, y.num = x ∧ goneB l y = true) (hP : P bM)
    (hown : w'.ownsMap Try.prog 3 heldR bM n (delAll D zs)) : StM P S w' (.map (some bM)) (V.filter fun x => !goneB l x) := by
  obtain ⟨_, g2, g3, g4⟩ := delAll_spec zs D ht hnd fun x hx => by
    obtain ⟨y, hy, rfl, _⟩ := (hm x).1 hx
    obtain ⟨_, d, g, _⟩ := h5 y hy
    exact Maps.has_true_of_atKey g
  have hlen := (gone_perm h6 hnd hm).length_eq
  rw [List.length_map] at hlen
  have hkeep : ∀ y ∈ V.filter (fun x => !goneB l x), ∀ x ∈ zs, litI y.num ≠ litI x := fun y hy x hx e => by
    obtain ⟨hy1, hy2⟩ := List.mem_filter.1 hy
    obtain ⟨z, hz, h7, h8⟩ := (hm x).1 hx
    have : y = z := num_inj h6 hy1 hz ((litI_inj e).trans h7.symm)
    rw [this, h8] at hy2
    cases hy2
  refine ⟨bM, _, rfl, hP, map_tight hown, ?_, fun k hk => ?_, fun y hy => ?_, h6.filter _⟩
  · have := parts_len (goneB l) V; omega
  · have hnk : ∀ x ∈ zs, k ≠ litI x := fun x hx e => by rw [e, g4 x hx] at hk; cases hk
    rw [(g3 k hnk).1] at hk
    obtain ⟨y, hy, e⟩ := h4 k hk
    refine ⟨y, List.mem_filter.2 ⟨hy, ?_⟩, e⟩
    cases hgy : goneB l y
    · rfl
    · exact absurd e (hnk y.num ((hm y.num).2 ⟨y, hy, rfl, hgy⟩))
  · obtain ⟨g0, d, g1, g2'⟩ := h5 y (List.mem_filter.1 hy).1
    exact ⟨g0, d, fun z => ((g3 _ (hkeep y hy)).2 z).trans (g1 z), g2'⟩
theorem SlIP.sl {P : Nat → Prop} {w : World} {A : Option Addr} {ks : List Int} (h : SlIP P w A ks) : SlI .i64 w.heap.size w A ks := fun hn => by
  obtain ⟨b, o, e, hb, _, hc⟩ := h (by intro h0; subst h0; exact hn rfl)
  exact ⟨b, o, e, hb, hc⟩
def CoPost (P : Nat → Prop) (S : Sch) (V : List Ver) (l : Int) (w : World) (e : Ending) (w' : World) : Prop :=
  ∃ m A C, e = .returned (.tuple #[.agg #[m, .int .i64 l], .slice A (V.filter (goneB l)).length C]) ∧ StM P S w' m (V.filter fun x => !goneB l x) ∧ SlIP (fun b => w.heap.size ≤ b) w' A ((V.filter (goneB l)).map (·.num)) ∧ Below w.heap.size w w'

set_option maxHeartbeats 8000000 in
set_option maxRecDepth 100000 in
theorem snCollect_any {P : Nat → Prop} {S : Sch} {m : Value} {l : Int} {V : List Ver} {w : World} (h : StM P S w m V) (hPn : ∀ b, w.heap.size ≤ b → P b) (hV : V.length ≤ 1000) :
    Calls Try.prog 13 #[.agg #[m, .int .i64 l]] w (CoPost P S V l w) := by
  obtain ⟨b, D, rfl, hPb, hown, h3, h4, h5, h6⟩ := h
  obtain ⟨W0, hW0⟩ : ∃ W0, W0 = (w.alloc (.cells #[.map (some b), .int .i64 l] 31)).alloc (.cells #[.map none, .int .i64 0] 31) := ⟨_, rfl⟩
  have hr1 : Row W0 w.heap.size 31 [.map (some b), .int .i64 l] := by rw [hW0]; exact (Row.new w 31 _).alloc _
  have hr2 : Row W0 (w.heap.size + 1) 31 [.map none, .int .i64 0] := by
    have h := Row.new (w.alloc (.cells #[.map (some b), .int .i64 l] 31)) 31 [.map none, .int .i64 0]
    rw [World.size_alloc] at h
    rw [hW0]; exact h
  have hx0 : Ext w W0 := by rw [hW0]; exact ((Ext.refl w).alloc _).alloc _
  have hbw : b < w.heap.size := hown.lt
  have hz0 : w.heap.size + 1 < W0.heap.size := hr2.lt
  have HR1 := Lib.hid hr1
  have HR2 := Lib.hid hr2
  have HX0 := Lib.hid hx0
  have HOW := Lib.hid (map_up hown hx0.below)
  have HTD := Lib.hid (hown.tidy keyedI)
  have HH3 := Lib.hid h3
  have HH4 := Lib.hid h4
  have HH5 : Hid (VersM P S w D V) := h5
  have HH6 := Lib.hid h6
  have HPN := Lib.hid hPn
  have HVL := Lib.hid hV
  have HKU : Hid (∀ U, Below W0.heap.size W0 U → U.cell? ⟨w.heap.size, 0, none⟩ = some (.map (some b)) ∧ U.cell? ⟨w.heap.size, 1, none⟩ = some (.int .i64 l)) := fun U hb => ⟨(HR1.out.up hb).cell 0, (HR1.out.up hb).cell 1⟩
  clear hown h3 h4 h5 h6 hPn hV hr1 hr2 hx0 hPb
  go_enter Try.func13, Try.ntmps13
  go_upto_region 1 with (fail)
  rw [← hW0]
  clear hW0
  go_cut [4] from 8 to 13 (fun r wx => ∃ (b4 bM : Nat), r = .pointer (some ⟨b4, 0, none⟩) ∧ Row wx b4 31 [.map (some bM), .int .i64 l] ∧ wx.ownsMap Try.prog 3 heldR bM (Maps.size D) D ∧ W0.heap.size ≤ b4 ∧ W0.heap.size ≤ bM ∧ bM ≠ b4 ∧ Below W0.heap.size W0 wx)
  case first =>
    refine wp_region_held_drew (S := (fun w' => w'.cell? ⟨w.heap.size, 0, none⟩ = some (.map (some b)) ∧ w'.cell? ⟨w.heap.size, 1, none⟩ = some (.int .i64 l))) (by kernel_rfl) (HKU.out W0 (Below.refl _ _)) (fun hHeld => ?_)
    obtain ⟨U0, hV0⟩ : ∃ V, V = W0.drew := ⟨_, rfl⟩
    have HV : Hid (Below W0.heap.size W0 U0) := by show Below _ _ _; rw [hV0]; exact ((Ext.refl W0).drew).below
    rw [← hV0]
    clear hV0
    have hHeld0 := HKU.out U0 HV.out
    refine takeOp (i := 0) (v := ?_) (some 8) rfl rfl (by kernel_rfl) (by kernel_rfl) (by kernel_rfl) (fun _ _ _ h => h) (Or.inl ⟨by rfl, ?_⟩) (by assumption) ?_
    rotate_left 1
    · (intro w0 hSw; (try dsimp only at hSw); go_simp; try (with_reducible rfl))
    try simp only [Act.put]
    try simp only [List.setIfInBounds_toArray]
    try simp only [List.set_cons_succ]
    try simp only [List.set_cons_zero]
    refine takeOp (i := 1) (v := ?_) (some 9) rfl rfl (by kernel_rfl) (by kernel_rfl) (by kernel_rfl) (fun _ _ _ h => h) (Or.inl ⟨by rfl, ?_⟩) (by assumption) ?_
    rotate_left 1
    · (intro w0 hSw; (try dsimp only at hSw); go_simp; try (with_reducible rfl))
    try simp only [Act.put]
    try simp only [List.setIfInBounds_toArray]
    try simp only [List.set_cons_succ]
    try simp only [List.set_cons_zero]
    refine takeOp (i := 3) (v := ?_) (some 11) rfl rfl (by kernel_rfl) (by kernel_rfl) (by kernel_rfl) (fun _ _ _ h => h) (Or.inl ⟨by rfl, ?_⟩) (by assumption) ?_
    rotate_left 1
    · (intro w0 hSw; (try dsimp only at hSw); go_simp; try (with_reducible rfl))
    try simp only [Act.put]
    try simp only [List.setIfInBounds_toArray]
    try simp only [List.set_cons_succ]
    try simp only [List.set_cons_zero]
    refine takeOp (i := 4) (v := ?_) (some 12) rfl rfl (by kernel_rfl) (by kernel_rfl) (by kernel_rfl) (fun _ _ _ h => h) (Or.inl ⟨by rfl, ?_⟩) (by assumption) ?_
    rotate_left 1
    · (intro w0 hSw; (try dsimp only at hSw); go_simp; try (with_reducible rfl))
    try simp only [Act.put]
    try simp only [List.setIfInBounds_toArray]
    try simp only [List.set_cons_succ]
    try simp only [List.set_cons_zero]
    refine wpAnyH_ready (rs := [2, 6]) (by kernel_rfl) (by simp) ?_
    refine (AllReadyH.cons rfl (fun K hK => ?_) (AllReadyH.cons rfl (fun K hK => ?_) AllReadyH.nil))
    · go_simp
      refine (snClone_some b _ D U0 (map_up HOW.out HV.out)).mono ?_
      rintro e U1 ⟨rfl, ho, hx⟩
      have HLC : Hid (W0.heap.size ≤ U0.heap.size) := HV.out.size
      have HO := Lib.hid ho
      have HV := Lib.hid (Below.then HV.out hx.below HV.out.size)
      clear ho hx
      go_wp2_with fail
      refine hK.out _ _ (HKU.out _ HV.out) (fun hHeld => ?_)
      clear hK K
      try simp only [Act.put]
      try simp only [List.setIfInBounds_toArray]
      try simp only [List.set_cons_succ]
      try simp only [List.set_cons_zero]
      refine takeOp (i := 5) (v := ?_) (some 13) rfl rfl (by kernel_rfl) (by kernel_rfl) (by kernel_rfl) (fun _ _ _ h => h) (Or.inl ⟨by rfl, ?_⟩) (by assumption) ?_
      rotate_left 1
      · (intro w0 hSw; (try dsimp only at hSw); go_simp; try (with_reducible rfl))
      try simp only [Act.put]
      try simp only [List.setIfInBounds_toArray]
      try simp only [List.set_cons_succ]
      try simp only [List.set_cons_zero]
      refine wpAnyH_ready (rs := [6]) (by kernel_rfl) (by simp) ?_
      refine (AllReadyH.cons rfl (fun K hK => ?_) AllReadyH.nil)
      go_simp
      obtain ⟨U2, hV⟩ : ∃ V', V' = U1.alloc (.cells #[.map none, .int .i64 0] 31) := ⟨_, rfl⟩
      rw [← hV]
      have hx : Ext U1 U2 := by rw [hV]; exact (Ext.refl U1).alloc _
      have HM : Hid (Row U2 U1.heap.size 31 [.map none, .int .i64 0]) := by show Row _ _ _ _; rw [hV]; exact Row.new U1 31 _
      have HLO : Hid (W0.heap.size ≤ U1.heap.size) := HV.out.size
      have HNE : Hid (U0.heap.size ≠ U1.heap.size) := by show _ ≠ _; have := HO.out.lt; omega
      have HO := Lib.hid (map_up HO.out hx.below)
      have HV := Lib.hid (Below.then HV.out hx.below HV.out.size)
      clear hx hV
      refine hK.out _ _ (HKU.out _ HV.out) (fun hHeld => ?_)
      clear hK K
      try simp only [Act.put]
      try simp only [List.setIfInBounds_toArray]
      try simp only [List.set_cons_succ]
      try simp only [List.set_cons_zero]
      refine wpAnyH_ready (rs := [7]) (by kernel_rfl) (by simp) ?_
      refine (AllReadyH.cons rfl (fun K hK => ?_) AllReadyH.nil)
      have m0 := HM.out.cell 0
      have m1 := HM.out.cell 1
      have m2 := HM.out.frozen 0
      have m3 := HM.out.frozen 1
      have m4 := HM.out.lt
      simp only [List.getElem?_cons_zero, List.getElem?_cons_succ] at m0 m1
      go_simp
      obtain ⟨U3, hV⟩ : ∃ V', V' = (U2.setCell ⟨U1.heap.size, 0, none⟩ (.map (some U0.heap.size))).setCell ⟨U1.heap.size, 1, none⟩ (.int .i64 l) := ⟨_, rfl⟩
      rw [← hV]
      have HM : Hid (Row U3 U1.heap.size 31 [.map (some U0.heap.size), .int .i64 l]) := by show Row _ _ _ _; rw [hV]; exact HM.out.set2 _ _
      have HO : Hid (U3.ownsMap Try.prog 3 heldR U0.heap.size (Maps.size D) D) := by show World.ownsMap _ _ _ _ _ _ _; rw [hV]; exact (HO.out.setCell (a := ⟨U1.heap.size, 0, none⟩) HNE.out _).setCell (a := ⟨U1.heap.size, 1, none⟩) HNE.out _
      have HV : Hid (Below W0.heap.size W0 U3) := by show Below _ _ _; rw [hV]; exact (HV.out.setCell (by show W0.heap.size ≤ U1.heap.size; exact HLO.out) _).setCell (by show W0.heap.size ≤ U1.heap.size; exact HLO.out) _
      clear hV m0 m1 m2 m3 m4
      refine hK.out _ _ (HKU.out _ HV.out) (fun hHeld => ?_)
      clear hK K
      try simp only [Act.put]
      try simp only [List.setIfInBounds_toArray]
      try simp only [List.set_cons_succ]
      try simp only [List.set_cons_zero]
      refine wpAnyH_done (by kernel_rfl) ?_ _
      go_wp2_with fail
      go_meet
      case rel => exact ⟨U1.heap.size, U0.heap.size, rfl, HM.out, HO.out, HLO.out, HLC.out, HNE.out, HV.out⟩
    · go_simp
      obtain ⟨U1, hV⟩ : ∃ V', V' = U0.alloc (.cells #[.map none, .int .i64 0] 31) := ⟨_, rfl⟩
      rw [← hV]
      have hx : Ext U0 U1 := by rw [hV]; exact (Ext.refl U0).alloc _
      have HM : Hid (Row U1 U0.heap.size 31 [.map none, .int .i64 0]) := by show Row _ _ _ _; rw [hV]; exact Row.new U0 31 _
      have HLO : Hid (W0.heap.size ≤ U0.heap.size) := HV.out.size
      have HV := Lib.hid (Below.then HV.out hx.below HV.out.size)
      clear hx hV
      refine hK.out _ _ (HKU.out _ HV.out) (fun hHeld => ?_)
      clear hK K
      try simp only [Act.put]
      try simp only [List.setIfInBounds_toArray]
      try simp only [List.set_cons_succ]
      try simp only [List.set_cons_zero]
      refine wpAnyH_ready (rs := [2]) (by kernel_rfl) (by simp) ?_
      refine (AllReadyH.cons rfl (fun K hK => ?_) AllReadyH.nil)
      go_simp
      refine (snClone_some b _ D U1 (map_up HOW.out HV.out)).mono ?_
      rintro e U2 ⟨rfl, ho, hx⟩
      have HNE : Hid (U1.heap.size ≠ U0.heap.size) := by show _ ≠ _; have := HM.out.lt; omega
      have HM := Lib.hid (HM.out.up hx.below)
      have HLC : Hid (W0.heap.size ≤ U1.heap.size) := HV.out.size
      have HO := Lib.hid ho
      have HV := Lib.hid (Below.then HV.out hx.below HV.out.size)
      clear ho hx
      go_wp2_with fail
      refine hK.out _ _ (HKU.out _ HV.out) (fun hHeld => ?_)
      clear hK K
      try simp only [Act.put]
      try simp only [List.setIfInBounds_toArray]
      try simp only [List.set_cons_succ]
      try simp only [List.set_cons_zero]
      refine takeOp (i := 5) (v := ?_) (some 13) rfl rfl (by kernel_rfl) (by kernel_rfl) (by kernel_rfl) (fun _ _ _ h => h) (Or.inl ⟨by rfl, ?_⟩) (by assumption) ?_
      rotate_left 1
      · (intro w0 hSw; (try dsimp only at hSw); go_simp; try (with_reducible rfl))
      try simp only [Act.put]
      try simp only [List.setIfInBounds_toArray]
      try simp only [List.set_cons_succ]
      try simp only [List.set_cons_zero]
      refine wpAnyH_ready (rs := [7]) (by kernel_rfl) (by simp) ?_
      refine (AllReadyH.cons rfl (fun K hK => ?_) AllReadyH.nil)
      have m0 := HM.out.cell 0
      have m1 := HM.out.cell 1
      have m2 := HM.out.frozen 0
      have m3 := HM.out.frozen 1
      have m4 := HM.out.lt
      simp only [List.getElem?_cons_zero, List.getElem?_cons_succ] at m0 m1
      go_simp
      obtain ⟨U3, hV⟩ : ∃ V', V' = (U2.setCell ⟨U0.heap.size, 0, none⟩ (.map (some U1.heap.size))).setCell ⟨U0.heap.size, 1, none⟩ (.int .i64 l) := ⟨_, rfl⟩
      rw [← hV]
      have HM : Hid (Row U3 U0.heap.size 31 [.map (some U1.heap.size), .int .i64 l]) := by show Row _ _ _ _; rw [hV]; exact HM.out.set2 _ _
      have HO : Hid (U3.ownsMap Try.prog 3 heldR U1.heap.size (Maps.size D) D) := by show World.ownsMap _ _ _ _ _ _ _; rw [hV]; exact (HO.out.setCell (a := ⟨U0.heap.size, 0, none⟩) HNE.out _).setCell (a := ⟨U0.heap.size, 1, none⟩) HNE.out _
      have HV : Hid (Below W0.heap.size W0 U3) := by show Below _ _ _; rw [hV]; exact (HV.out.setCell (by show W0.heap.size ≤ U0.heap.size; exact HLO.out) _).setCell (by show W0.heap.size ≤ U0.heap.size; exact HLO.out) _
      clear hV m0 m1 m2 m3 m4
      refine hK.out _ _ (HKU.out _ HV.out) (fun hHeld => ?_)
      clear hK K
      try simp only [Act.put]
      try simp only [List.setIfInBounds_toArray]
      try simp only [List.set_cons_succ]
      try simp only [List.set_cons_zero]
      refine wpAnyH_done (by kernel_rfl) ?_ _
      go_wp2_with fail
      go_meet
      case rel => exact ⟨U0.heap.size, U1.heap.size, rfl, HM.out, HO.out, HLO.out, HLC.out, HNE.out, HV.out⟩
  case rest =>
    obtain ⟨b4, bM, rfl, hr4, ho, hlo, hlc, hne, hbc⟩ := hcut
    have HR4 := Lib.hid hr4
    have HO4 := Lib.hid ho
    have HBC := Lib.hid hbc
    have HOC := Lib.hid (map_up HOW.out hbc)
    have HRW := Lib.hid (HR1.out.up hbc)
    have HRG := Lib.hid (HR2.out.up hbc)
    have k0 : wc.cell? ⟨w.heap.size, 0, none⟩ = some (.map (some b)) := HRW.out.cell 0
    have k1 := HRW.out.lt
    have hbMl := ho.lt
    have hb4l := hr4.lt
    have hcz := hbc.size
    clear hr4 ho hbc HOW HR1 HR2 HKU
    go_wp2_with (first
      | (at_range; refine wpList_range_own _ rfl _ 29 rfl 3 87 keyedI Try.underlying29 heldR b (Maps.size D) D rfl HOC.out ?_; intro w0 hrg0 hg0 hs0)
      | fail)
    go_frame
    obtain ⟨r, hr⟩ : ∃ r, r = wc.heap.size := ⟨_, rfl⟩
    have HRG0 : Hid (w0.ranges Try.prog 3 heldR b r (Maps.size D) D (Maps.has D) (Maps.size D)) := by rw [hr]; exact hrg0
    have hB00 : Below wc.heap.size wc w0 := (Below.refl _ wc).grown hg0 (Nat.le_refl _) (fun j hj => by cases hj)
    have HB0 := Lib.hid hB00
    have HO0 := Lib.hid (map_up HO4.out hB00)
    have HR40 := Lib.hid (HR4.out.up hB00)
    have HRW0 := Lib.hid (HRW.out.up hB00)
    have HRGG := Lib.hid (HRG.out.up hB00)
    have HS0 : Hid (w0.heap.size = r + 1) := by show _ = _; rw [hr]; exact hs0
    have hrl : W0.heap.size ≤ r := by omega
    have hbMr : bM < r := by omega
    have hb4r : b4 < r := by omega
    rw [← hr]
    clear hrg0 hg0 hs0 hr hB00 k0 k1 HR4 HO4 HRW HRG hbMl hb4l
    go_loopw [5] (fun v wx => ∃ (left : Lit → Bool) (cnt : Nat) (zs : List Int), wx.ownsRow (r + 1) 3 1 v zs.length (zs.map (Value.int .i64)) ∧ wx.ranges Try.prog 3 heldR b r (Maps.size D) D left cnt ∧ wx.ownsMap Try.prog 3 heldR bM (Maps.size D) (delAll D zs) ∧ zs.Nodup ∧ (zs.length + cnt ≤ V.length ∧ ∀ x, x ∈ zs ↔ left (litI x) = false ∧ ∃ y ∈ V, y.num = x ∧ goneB l y = true) ∧ Row wx b4 31 [.map (some bM), .int .i64 l] ∧ Row wx w.heap.size 31 [.map (some b), .int .i64 l] ∧ Row wx (w.heap.size + 1) 31 [.map none, .int .i64 0] ∧ Stay (fun x => x ≠ bM ∧ x < r) w0 wx ∧ wx.heap.size ≥ r + 1 ∧ Below w.heap.size w wx) (fun _ wx => wx.rangeLeft b r)
    case atStart =>
      refine ⟨_, _, [], own_nil _ _ _ _, HRG0.out, HO0.out, List.nodup_nil, ⟨by rw [HH3.out]; simp, fun x => ⟨fun h => by simp at h, fun ⟨h1, y, hy, h2, _⟩ => ?_⟩⟩, HR40.out, HRW0.out, HRGG.out, ⟨Nat.le_refl _, fun _ _ _ => rfl⟩, by rw [HS0.out]; exact Nat.le_refl _, Below.then HX0.out.below (Below.then HBC.out HB0.out HBC.out.size) HX0.out.size⟩
      rw [has_num HH4.out HH5.out x] at h1
      have := List.any_eq_false.1 h1 y hy
      simp [h2] at this
    case round =>
      obtain ⟨left, cnt, zs, hown, hrg, hom, hnd, ⟨hcn, hmem⟩, hr4, hrw, hrgg, hst, hsz, hb⟩ := hrel
      have HOWN := Lib.hid hown
      have HRGS := Lib.hid hrg
      have HOM := Lib.hid hom
      have HND := Lib.hid hnd
      have HMEM := Lib.hid hmem
      have HR4 := Lib.hid hr4
      have HRW := Lib.hid hrw
      have HRG2 := Lib.hid hrgg
      have HSTY := Lib.hid hst
      have HB := Lib.hid hb
      clear hown hom hnd hmem hr4 hrw hrgg hst hb
      go_wp2_with (first
        | (at_next; refine wpList_next_ranges _ rfl _ rfl 3 keyedI heldR (Value.int .i64) (fun v : Value => v) (fun key kl h => by obtain ⟨x, e, _⟩ := Maps.keyOf_int_inv Try.underlying3 h; exact ⟨x, e⟩) (fun v y _ => ⟨v, rfl⟩) b r (Maps.size D) D left cnt rfl HRGS.out ?_ ?_)
        | fail)
      · intro hc0 hl0
        have HM0 : Hid (∀ x, x ∈ zs ↔ ∃ y ∈ V, y.num = x ∧ goneB l y = true) := fun x => by rw [HMEM.out x, hl0]; simp
        have HPM := Lib.hid (gone_perm HH6.out HND.out HM0.out)
        have hbr : b ≠ r := by omega
        have HSRT := Lib.hid (sortInts_own (r + 1) u5 zs.length zs wr HOWN.out (by have := HVL.out; omega))
        clear hc0 hl0 hrg
        go_wp2_with fail
        refine HSRT.out.mono ?_
        rintro e w2 ⟨rfl, hown2, hg2⟩
        have hob : ∀ k, u5.ownBlock = some k → r + 1 ≤ k := fun k hk => own_base HOWN.out hk
        rw [gone_sorted HH6.out HPM.out] at hown2
        have hzl := HPM.out.length_eq
        rw [List.length_map] at hzl
        rw [hzl] at hown2
        have HOW2 := Lib.hid hown2
        have HR42 := Lib.hid (HR4.out.grown hg2 (fun e => by have := hob _ e.symm; omega))
        have HRG22 := Lib.hid (HRG2.out.grown hg2 (fun e => by have := hob _ e.symm; omega))
        have HOM2 := Lib.hid (HOM.out.kept hg2 (fun e => by have := hob _ e.symm; omega))
        have HB2 : Hid (Below w.heap.size w w2) := HB.out.grown hg2 HB.out.size (fun j hj => by have := hob _ hj; omega)
        have j0 : w2.cell? ⟨b4, 0, none⟩ = some (.map (some bM)) := HR42.out.cell 0
        have j1 : w2.cell? ⟨b4, 1, none⟩ = some (.int .i64 l) := HR42.out.cell 1
        have j2 := HR42.out.lt
        have j3 : w2.cell? ⟨w.heap.size + 1, 0, none⟩ = some (.map none) := HRG22.out.cell 0
        have j4 : w2.cell? ⟨w.heap.size + 1, 1, none⟩ = some (.int .i64 0) := HRG22.out.cell 1
        have j5 := HRG22.out.lt
        have j6 := HRG22.out.frozen 0
        have j7 := HRG22.out.frozen 1
        have HZL := Lib.hid hzl
        clear hown2 hg2 hzl HSRT
        go_wp2_with fail
        obtain ⟨W9, hW9⟩ : ∃ W9, W9 = (w2.setCell ⟨w.heap.size + 1, 0, none⟩ (.map (some bM))).setCell ⟨w.heap.size + 1, 1, none⟩ (.int .i64 l) := ⟨_, rfl⟩
        rw [← hW9]
        have q := HRG22.out.set2 (.map (some bM)) (.int .i64 l)
        rw [← hW9] at q
        have c0 := q.cell 0
        have c1 := q.cell 1
        have hb9 : Below w.heap.size w W9 := by
          rw [hW9]
          exact (HB2.out.setCell (by show w.heap.size ≤ w.heap.size + 1; omega) _).setCell (by show w.heap.size ≤ w.heap.size + 1; omega) _
        have hne9 : bM ≠ w.heap.size + 1 := by omega
        have ho9 : W9.ownsMap Try.prog 3 heldR bM (Maps.size D) (delAll D zs) := by
          rw [hW9]
          exact (HOM2.out.setCell (a := ⟨w.heap.size + 1, 0, none⟩) hne9 _).setCell (a := ⟨w.heap.size + 1, 1, none⟩) hne9 _
        have hst9 := StM.collected (l := l) HTD.out HH3.out HH4.out (HH5.out.keep (Stay.of hb9)) HH6.out HND.out HM0.out (HPN.out bM (by omega)) ho9
        have how9 : W9.ownsRow (r + 1) 3 1 u5 (V.filter (goneB l)).length (((V.filter (goneB l)).map (·.num)).map (Value.int .i64)) := by
          have hnb : u5.ownBlock ≠ some (w.heap.size + 1) := fun e => by have := hob _ e; omega
          rw [hW9]
          exact own_far (own_far HOW2.out (p := ⟨w.heap.size + 1, 0, none⟩) hnb _) (p := ⟨w.heap.size + 1, 1, none⟩) hnb _
        obtain ⟨A9, C9, rfl, -, -, -⟩ := own_cut how9 (by decide)
        have hsl : SlIP (fun b => w.heap.size ≤ b) W9 A9 ((V.filter (goneB l)).map (·.num)) := own_slip how9 (by rw [List.length_map]) fun b hb => by omega
        exact bodyPost_ret (v := .tuple #[.agg #[.map (some bM), .int .i64 l], .slice A9 (V.filter (goneB l)).length C9]) (by simp [results, Try.results13, go_sem, c0, c1]) rfl ⟨_, A9, C9, rfl, hst9, hsl, hb9⟩
      · intro x c kl y ps w1 cnt1 hkey hlk hv hat hrg1 hlt hg1 hs1 hen
        have hy : y = .held c := by
          unfold heldR at hv
          injection hv with hv
          injection hv with hv
          exact hv.symm
        obtain ⟨x', e1, e2, -⟩ := Maps.keyOf_int_inv Try.underlying3 hkey
        injection e1 with e0 e1
        subst e1
        subst e2
        have hat2 : ∀ z, D.atKey (litI x) z = .held c := fun z => (hat z).trans hy
        obtain ⟨ver, hver, ex⟩ := HH4.out (litI x) (Maps.has_true_of_atKey hat2)
        obtain rfl := litI_inj ex
        obtain ⟨hwf, d, hv1, hdb⟩ := HH5.out ver hver
        obtain ⟨bd, rfl⟩ := hdb.form
        have hcv : DataW.held c = .held (.agg #[.map (some bd), .int .i64 ver.pins]) := (hat2 .nil).symm.trans (hv1 .nil)
        injection hcv with hcv
        subst hcv
        have hbr : b ≠ r := by omega
        have hwr : w.heap.size < r := by omega
        have HOWN1 := Lib.hid (own_grown HOWN.out hg1 (fun k hk e => by have h1 := own_base HOWN.out hk; injection e with e; omega))
        have HOM1 := Lib.hid (HOM.out.kept hg1 (by intro e; injection e with e; omega))
        have HR41 := Lib.hid (HR4.out.grown hg1 (by intro e; injection e with e; omega))
        have HRW1 := Lib.hid (HRW.out.grown hg1 (by intro e; injection e with e; omega))
        have HRG1 := Lib.hid (HRG2.out.grown hg1 (by intro e; injection e with e; omega))
        have HSTY1 : Hid (Stay (fun x => x ≠ bM ∧ x < r) w0 w1) := HSTY.out.trans (Stay.grown hg1 (fun e => by have := e.2; omega))
        have HB1 : Hid (Below w.heap.size w w1) := HB.out.grown hg1 HB.out.size (fun j hj => by injection hj with hj; omega)
        have HRNG1 := Lib.hid hrg1
        have HLE := Lib.hid HRGS.out.left_eq
        have HVER := Lib.hid hver
        have HWF := Lib.hid hwf
        have HLK : Hid (left (litI ver.num) = true) := hlk
        have hlt2 := hlt
        have hz1 : w1.heap.size ≥ r + 1 := by rw [hs1]; exact hsz
        obtain ⟨W2, hW2⟩ : ∃ W2, W2 = w1.alloc (.cells #[.map (some bd), .int .i64 ver.pins] 87) := ⟨_, rfl⟩
        have hx2 : Ext w1 W2 := by rw [hW2]; exact (Ext.refl w1).alloc _
        have hr7 : Row W2 w1.heap.size 87 [.map (some bd), .int .i64 ver.pins] := by rw [hW2]; exact Row.new w1 87 _
        have j0 : W2.cell? ⟨w1.heap.size, 1, none⟩ = some (.int .i64 ver.pins) := hr7.cell 1
        have j1 : W2.cell? ⟨w.heap.size, 1, none⟩ = some (.int .i64 l) := (HRW1.out.up hx2.below).cell 1
        have j2 := hr7.lt
        have j3 := (HRW1.out.up hx2.below).lt
        have HX2 := Lib.hid hx2
        have HW2 := Lib.hid hW2
        clear hkey hlk hv hat hrg1 hg1 hs1 hy hat2 hver hv1 hdb hwf hrg hlt ex hx2 hr7 hW2 HOWN HOM HR4 HRW HRG2 HSTY HB HRGS
        go_upto_region 6 with (fail)
        rw [← HW2.out]
        clear hen HW2
        by_cases hgo : goneB l ver = true
        rotate_left
        · have HNG : Hid (goneB l ver = false) := by show _ = _; simpa using hgo
          have HNMEM : Hid (∀ x, x ∈ zs ↔ (left (litI x) && !(litI x).sameKey (litI ver.num)) = false ∧ ∃ y ∈ V, y.num = x ∧ goneB l y = true) := fun x => by
            rw [struck, HMEM.out x]
            constructor
            · rintro ⟨h1, h2⟩; exact ⟨.inl h1, h2⟩
            · rintro ⟨h1 | h1, y, hy, h2, h3⟩
              · exact ⟨h1, y, hy, h2, h3⟩
              · subst h1
                obtain rfl := num_inj HH6.out hy HVER.out h2
                rw [HNG.out] at h3
                cases h3
          clear hgo
          by_cases hp0 : ver.pins = 0
          · have n1 : (ver.pins == 0) = true := by rw [hp0]; rfl
            have n2 : (ver.num != l) = false := by
              have h := HNG.out
              unfold goneB at h
              rw [decide_eq_true hp0, Bool.true_and] at h
              have h := of_decide_eq_false h
              simpa using h
            clear hp0
            go_wp2_with fail
            go_roundw
            case rel => exact ⟨_, cnt1, zs, own_keep HOWN1.out HX2.out.below, ranges_up HRNG1.out HX2.out.below, map_up HOM1.out HX2.out.below, HND.out, ⟨by omega, HNMEM.out⟩, HR41.out.up HX2.out.below, HRW1.out.up HX2.out.below, HRG1.out.up HX2.out.below, HSTY1.out.trans (Stay.of HX2.out.below), Nat.le_trans hz1 HX2.out.size, Below.then HB1.out HX2.out.below HB1.out.size⟩
            case measure => rw [(ranges_up HRNG1.out HX2.out.below).left_eq, HLE.out]; exact hlt2
          · have n1 : (ver.pins == 0) = false := by simpa using hp0
            clear hp0
            go_wp2_with fail
            go_roundw
            case rel => exact ⟨_, cnt1, zs, own_keep HOWN1.out HX2.out.below, ranges_up HRNG1.out HX2.out.below, map_up HOM1.out HX2.out.below, HND.out, ⟨by omega, HNMEM.out⟩, HR41.out.up HX2.out.below, HRW1.out.up HX2.out.below, HRG1.out.up HX2.out.below, HSTY1.out.trans (Stay.of HX2.out.below), Nat.le_trans hz1 HX2.out.size, Below.then HB1.out HX2.out.below HB1.out.size⟩
            case measure => rw [(ranges_up HRNG1.out HX2.out.below).left_eq, HLE.out]; exact hlt2
        · have hgo2 := hgo
          unfold goneB at hgo2
          obtain ⟨hp0, hnl⟩ := Bool.and_eq_true_iff.1 hgo2
          have hp0 := of_decide_eq_true hp0
          have hnl := of_decide_eq_true hnl
          have n1 : (ver.pins == 0) = true := by rw [hp0]; rfl
          have n2 : (ver.num != l) = true := by simpa using hnl
          have HGO := Lib.hid hgo
          have HNIN : Hid (ver.num ∉ zs) := fun h => by
            have := ((HMEM.out _).1 h).1
            rw [HLK.out] at this
            cases this
          have HNMEM : Hid (∀ x, x ∈ zs ++ [ver.num] ↔ (left (litI x) && !(litI x).sameKey (litI ver.num)) = false ∧ ∃ y ∈ V, y.num = x ∧ goneB l y = true) := fun x => by
            rw [struck, List.mem_append, HMEM.out x, List.mem_singleton]
            constructor
            · rintro (⟨h1, h2⟩ | rfl)
              · exact ⟨.inl h1, h2⟩
              · exact ⟨.inr rfl, ver, HVER.out, rfl, HGO.out⟩
            · rintro ⟨h1 | h1, h2⟩
              · exact .inl ⟨h1, h2⟩
              · exact .inr h1
          clear hp0 hnl hgo hgo2
          obtain ⟨W3, hW3⟩ : ∃ W3, W3 = W2.alloc (.cells #[.int .i64 ver.num] 3) := ⟨_, rfl⟩
          have hx3 : Ext W2 W3 := by rw [hW3]; exact (Ext.refl W2).alloc _
          have hrn : Row W3 W2.heap.size 3 [.int .i64 ver.num] := by rw [hW3]; exact Row.new W2 3 _
          have HB13 := Lib.hid (Below.then HX2.out.below hx3.below HX2.out.size)
          have HOWN3 := Lib.hid (own_keep HOWN1.out HB13.out)
          have HRN := Lib.hid hrn
          have HW3 := Lib.hid hW3
          have HZL : Hid (zs.length ≤ 1000) := by show _ ≤ _; have := HVL.out; omega
          clear hx3 hrn hW3
          go_wp2_with (first
            | (at_builtin
               rw [← HW3.out]
               refine app1Int rfl (.tmp 31) (.tmp 33) rfl (r + 1) u5 zs.length (zs.map (Value.int .i64)) rfl HOWN3.out W2.heap.size ver.num rfl (HRN.out.cell 0) (by have := HZL.out; omega) (Nat.le_trans hz1 HB13.out.size) ?_
               intro v' w4 hown4 hg4
               have hob : ∀ k, u5.ownBlock = some k → r + 1 ≤ k := fun k hk => own_base HOWN3.out hk
               have HO4B : Hid (∀ k, v'.ownBlock = some k → r + 1 ≤ k) := fun k hk => own_base hown4 hk
               have HOW4 := Lib.hid hown4
               have HR44 := Lib.hid ((HR41.out.up HB13.out).grown hg4 (fun e => by have := hob _ e.symm; omega))
               have HRW4 := Lib.hid ((HRW1.out.up HB13.out).grown hg4 (fun e => by have := hob _ e.symm; omega))
               have HRG4 := Lib.hid ((HRG1.out.up HB13.out).grown hg4 (fun e => by have := hob _ e.symm; omega))
               have HOM4 := Lib.hid ((map_up HOM1.out HB13.out).kept hg4 (fun e => by have := hob _ e.symm; omega))
               have HRN4 := Lib.hid ((ranges_up HRNG1.out HB13.out).kept hg4 (fun e => by have := hob _ e.symm; omega) (fun e => by have := hob _ e.symm; omega))
               have HST4 : Hid (Stay (fun x => x ≠ bM ∧ x < r) w0 w4) := (HSTY1.out.trans (Stay.of HB13.out)).trans ⟨hg4.size, fun k hk hp => hg4.block k hk (fun e => by have h1 := hob _ e.symm; have h2 : k < r := hp.2; omega)⟩
               have HB4 : Hid (Below w.heap.size w w4) := (Below.then HB1.out HB13.out HB1.out.size).grown hg4 (Below.then HB1.out HB13.out HB1.out.size).size (fun j hj => by have := hob _ hj; omega)
               have hz4 : w4.heap.size ≥ r + 1 := by have := hg4.size; have := HB13.out.size; omega
               have j5 : w4.cell? ⟨b4, 0, none⟩ = some (.map (some bM)) := HR44.out.cell 0
               have j6 := HR44.out.lt
               clear hown4 hg4)
            | (at_delete
               refine wpList_delete_own _ rfl _ _ 29 3 rfl 87 keyedI Try.underlying29 heldR bM (Maps.size D) (delAll D zs) rfl HOM4.out _ (litI ver.num) rfl (keyI HWF.out) ?_
               intro w5 hown5 hturn5
               have HOM5 := Lib.hid hown5
               have HG5 := Lib.hid hturn5.grown
               clear hown5 hturn5)
            | fail)
          have HLEN : Hid ((zs ++ [ver.num]).length = zs.length + 1) := by show _ = _; rw [List.length_append]; rfl
          have HOWF : Hid (w5.ownsRow (r + 1) 3 1 v' (zs ++ [ver.num]).length ((zs ++ [ver.num]).map (Value.int .i64))) := by
            show World.ownsRow _ _ _ _ _ _ _
            rw [HLEN.out, List.map_append]
            exact own_grown HOW4.out HG5.out (fun k hk e => by have h1 := HO4B.out k hk; injection e with e; omega)
          have HRN5 := Lib.hid (HRN4.out.kept HG5.out (by intro e; injection e with e; omega) (by intro e; injection e with e; omega))
          have HDEL : Hid (w5.ownsMap Try.prog 3 heldR bM (Maps.size D) (delAll D (zs ++ [ver.num]))) := by show World.ownsMap _ _ _ _ _ _ _; rw [delAll_snoc]; exact HOM5.out
          have HNDF : Hid ((zs ++ [ver.num]).Nodup) := List.nodup_append.2 ⟨HND.out, by simp, fun a ha b hb => by simp at hb; subst hb; exact fun e => HNIN.out (e ▸ ha)⟩
          go_wp2_with fail
          go_roundw
          case rel => exact ⟨_, cnt1, zs ++ [ver.num], HOWF.out, HRN5.out, HDEL.out, HNDF.out, ⟨by rw [HLEN.out]; omega, HNMEM.out⟩, HR44.out.grown HG5.out (by intro e; injection e with e; omega), HRW4.out.grown HG5.out (by intro e; injection e with e; omega), HRG4.out.grown HG5.out (by intro e; injection e with e; omega), HST4.out.trans (Stay.grown HG5.out (fun e => e.1 rfl)), Nat.le_trans hz4 HG5.out.size, HB4.out.grown HG5.out HB4.out.size (fun j hj => by injection hj with hj; omega)⟩
          case measure => rw [HRN5.out.left_eq, HLE.out]; exact hlt2

end Go.Proofs.Ytgaffbdcpkbdhaa
end

section
/- Walks: slices.EqualFunc at rows with row.Equal, relation's Equal. -/
namespace Go.Proofs.Ytgaffbdcpkbdhaa
open Go.RowKit Go.Sort

theorem take_eq_snoc {X Y : List RL.R} {k : Nat} (hx : k < X.length) (hy : k < Y.length) (h : X.take k = Y.take k) (e : X[k] = Y[k]) : X.take (k + 1) = Y.take (k + 1) := by
  rw [List.take_succ_eq_append_getElem hx, List.take_succ_eq_append_getElem hy, h, e]

set_option maxHeartbeats 1000000 in
set_option maxRecDepth 100000 in
theorem equalFunc_any (XA YA : Option Addr) (XC YC : Nat) (X Y : List RL.R) (w : World) (hX : SlRs w.heap.size w XA X) (hY : SlRs w.heap.size w YA Y) (_hXl : X.length ≤ 1000000) (hYl : Y.length ≤ 1000000) (hXo : RsOk X) (hYo : RsOk Y) :
    Calls Try.prog 54 #[.slice XA X.length XC, .slice YA Y.length YC, .func (.func 55) #[] #[]] w fun e w' => e = .returned (.bool (decide (X = Y))) ∧ Ext w w' := by
  have HX := Lib.hid hX
  have HY := Lib.hid hY
  have HXO := Lib.hid hXo
  have HYO := Lib.hid hYo
  clear hX hY hXo hYo
  by_cases hl : X.length = Y.length
  rotate_left
  · have HD : Hid (decide (X = Y) = false) := by show _ = _; simp only [decide_eq_false_iff_not]; intro e; exact hl (by rw [e])
    have hl2 : ((X.length : Int) != (Y.length : Int)) = true := by simp; omega
    clear hl
    go_enter Try.func54, Try.ntmps54
    go_wp2
    go_ret
    exact ⟨by rw [HD.out]; rfl, Ext.refl _⟩
  have eg : ∀ args w, (callFunc 55 args).run Try.prog w = .ok (.enter 55 args) w := enters_of Try.func55 (by kernel_rfl) rfl
  have HL := Lib.hid hl
  rw [← hl]
  have hYX : X.length ≤ Y.length := by omega
  clear hl
  go_enter Try.func54, Try.ntmps54
  go_wp2
  go_loopw [17] (fun i wr => ∃ k : Nat, k ≤ X.length ∧ i = .int .i64 k ∧ X.take k = Y.take k ∧ Ext w wr) (fun i _ => X.length - (intOf i).toNat)
  case atStart => exact ⟨0, Nat.zero_le _, rfl, by simp, Ext.refl _⟩
  case round =>
    obtain ⟨k, hka, rfl, htk, hext⟩ := hrel
    have HT := Lib.hid htk
    have HE := Lib.hid hext
    have hzz := hext.size
    clear htk
    by_cases h1 : k < X.length
    · obtain ⟨b, o, A1, C1, rfl, hb, c1, -, -, s1⟩ := slRs_at HX.out h1
      obtain ⟨b2, o2, A2, C2, rfl, hb2, c2, -, -, s2⟩ := slRs_at HY.out (show k < Y.length by omega)
      have d1 := (hext.cell (o := o + k) hb).trans c1
      have d2 := (hext.cell (o := o2 + k) hb2).trans c2
      have HC := Lib.hid (rwEqual_any A1 A2 C1 C2 X[k] Y[k] wr (s1.up hext) (s2.up hext) (HXO.out.at_ h1).1 (HYO.out.at_ (show k < Y.length by omega)).1)
      have hkY : k < Y.length := by omega
      have HN := Lib.hid (fun (e : X[k] = Y[k]) => take_eq_snoc h1 hkY HT.out e)
      have HNE : Hid (X[k] ≠ Y[k] → decide (X = Y) = false) := fun hne => by
        simp only [decide_eq_false_iff_not]
        intro e
        subst e
        exact hne rfl
      clear c1 c2 s1 s2 hext
      generalize X[k] = x at *
      generalize Y[k] = y at *
      go_wp2_with fail
      refine HC.out.mono ?_
      rintro e w1 ⟨rfl, hx1⟩
      have HE1 := Lib.hid (HE.out.trans hx1)
      clear hx1 HC d1 d2
      by_cases hq : x = y
      · have HN2 := Lib.hid (HN.out hq)
        have hd : decide (x = y) = true := by simpa using hq
        rw [hd]
        clear hq hd HN HNE
        go_wp2
        go_roundw
        case rel => exact ⟨k + 1, by omega, by go_num, HN2.out, HE1.out⟩
        case measure => simp [intOf]; omega
      · have HN2 := Lib.hid (HNE.out hq)
        have hd : decide (x = y) = false := by simpa using hq
        rw [hd]
        clear hq hd HN HNE
        go_wp2
        go_ret
        exact ⟨by rw [HN2.out]; rfl, HE1.out⟩
    · have HD : Hid (decide (X = Y) = true) := by
        show _ = _
        have := HT.out
        rw [List.take_of_length_le (show X.length ≤ k by omega), List.take_of_length_le (show Y.length ≤ k by have := HL.out; omega)] at this
        simpa using this
      go_wp2
      go_ret
      exact ⟨by rw [HD.out]; rfl, HE.out⟩

set_option maxHeartbeats 1000000 in
set_option maxRecDepth 100000 in
theorem rlEqual_any (n m : Int) (XA YA : Option Addr) (XC YC : Nat) (X Y : List RL.R) (w : World) (hX : SlRs w.heap.size w XA X) (hY : SlRs w.heap.size w YA Y) (hXl : X.length ≤ 1000000) (hYl : Y.length ≤ 1000000) (hXo : RsOk X) (hYo : RsOk Y) :
    Calls Try.prog 39 #[.agg #[.int .i64 n, .slice XA X.length XC], .agg #[.int .i64 m, .slice YA Y.length YC]] w fun e w' => e = .returned (.bool (decide (n = m) && decide (X = Y))) ∧ Ext w w' := by
  have HC := Lib.hid (fun (W : World) (h : Ext w W) => equalFunc_any XA YA XC YC X Y W (hX.up h) (hY.up h) hXl hYl hXo hYo)
  clear hX hY hXo hYo
  by_cases hn : n = m
  · subst hn
    go_enter Try.func39, Try.ntmps39
    go_wp2_with fail
    refine (HC.out _ (((Ext.refl w).alloc _).alloc _)).mono ?_
    rintro e w1 ⟨rfl, hx1⟩
    have HE := Lib.hid ((((Ext.refl w).alloc _).alloc _).trans hx1)
    clear hx1
    obtain ⟨q, hq⟩ : ∃ q, q = decide (X = Y) := ⟨_, rfl⟩
    rw [← hq]
    have HQ := Lib.hid hq
    clear hq
    go_wp2
    go_ret
    exact ⟨by rw [← HQ.out]; simp, HE.out⟩
  · have h1 : (n == m) = false := by simpa using hn
    have HN : Hid (decide (n = m) = false) := by show _ = _; simpa using hn
    clear hn
    go_enter Try.func39, Try.ntmps39
    go_wp2
    go_ret
    exact ⟨by rw [HN.out]; rfl, ((Ext.refl w).alloc _).alloc _⟩

end Go.Proofs.Ytgaffbdcpkbdhaa
end

section
namespace Go.Proofs.Ytgaffbdcpkbdhaa
open Go.RowKit

/-- The first place of a number in a list, or -1. -/
def idxF (xs : List Int) (x : Int) : Int := match xs.findIdx? (· == x) with | some i => i | none => -1
theorem idxF_at {xs : List Int} {x : Int} {k : Nat} (hk : k < xs.length) (h : xs[k] = x) (hall : ∀ i (_h1 : i < k) (h2 : i < xs.length), xs[i] ≠ x) : idxF xs x = k := by
  unfold idxF
  have : xs.findIdx? (· == x) = some k := by
    rw [List.findIdx?_eq_some_iff_getElem]
    exact ⟨hk, by simpa using h, fun j hj => by simpa using hall j hj (by omega)⟩
  rw [this]
theorem idxF_none {xs : List Int} {x : Int} (hall : ∀ i (h2 : i < xs.length), xs[i] ≠ x) : idxF xs x = -1 := by
  unfold idxF
  have : xs.findIdx? (· == x) = none := by
    rw [List.findIdx?_eq_none_iff]
    intro y hy
    obtain ⟨i, hi, rfl⟩ := List.getElem_of_mem hy
    simpa using hall i hi
  rw [this]

theorem take_eq_of {xs ys : List Int} {k : Nat} (hl : xs.length = ys.length) (h : ∀ i (_h1 : i < k) (h2 : i < xs.length) (h3 : i < ys.length), xs[i] = ys[i]) (hk : xs.length ≤ k) : xs = ys := by
  apply List.ext_getElem hl
  intro i h2 h3
  exact h i (by omega) h2 h3

set_option maxHeartbeats 400000 in
theorem eqInt_any (XA YA : Option Addr) (XC YC : Nat) (xs ys : List Int) (w : World)
    (hx : SlI .i64 w.heap.size w XA xs) (hy : SlI .i64 w.heap.size w YA ys) (hxl : xs.length ≤ 1000000) (hyl : ys.length ≤ 1000000) :
    Calls Try.prog 38 #[.slice XA xs.length XC, .slice YA ys.length YC] w fun e w' => e = .returned (.bool (decide (xs = ys))) ∧ ∃ n, w' = w.drewN n := by
  by_cases hl : xs.length = ys.length
  rotate_left
  · have hd : decide (xs = ys) = false := by
      simp; intro h; subst h; exact hl rfl
    rw [hd]
    clear hx hy hd
    generalize xs.length = m at *
    generalize ys.length = n at *
    have hne : ((m : Int) != (n : Int)) = true := by simp; omega
    clear hl
    go_enter Try.func38, Try.ntmps38
    go_wp2
    go_ret
    exact ⟨rfl, 0, rfl⟩
  have hne : ((xs.length : Int) != (ys.length : Int)) = false := by simp; omega
  have HL := Lib.hid hl
  clear hl
  go_enter Try.func38, Try.ntmps38
  go_wp2
  go_loopw [13] (fun i wr => ∃ k : Nat, k ≤ xs.length ∧ i = .int .i64 k ∧ (∀ i (h1 : i < k) (h2 : i < xs.length) (h3 : i < ys.length), xs[i] = ys[i]) ∧ (∃ n, wr = w.drewN n)) (fun i _ => xs.length - (intOf i).toNat)
  case atStart => exact ⟨0, Nat.zero_le _, rfl, fun i h => absurd h (by omega), 0, rfl⟩
  case round =>
    obtain ⟨k, hk, rfl, hall, n, rfl⟩ := hrel
    have HA := Lib.hid hall
    clear hall
    by_cases hlt : k < xs.length
    · have hlt' : k < ys.length := by have := HL.out; omega
      obtain ⟨b, o, rfl, hbb, hc⟩ := slI_at hx hlt
      obtain ⟨b', o', rfl, hbb', hc'⟩ := slI_at hy hlt'
      generalize hxk : xs[k] = xk at *
      generalize hyk : ys[k] = yk at *
      have HX := Lib.hid hxk
      have HY := Lib.hid hyk
      clear hxk hyk hx hy
      by_cases heq : xk = yk
      · have hne2 : (xk != yk) = false := by simp [heq]
        have HE := Lib.hid heq
        clear heq
        go_wp2
        go_quiet (fail)
        go_wp2
        go_roundw
        case rel =>
          refine ⟨k + 1, by omega, by go_num, ?_, _, rfl⟩
          intro i h1 h2 h3
          by_cases hik : i < k
          · exact HA.out i hik h2 h3
          · obtain rfl : i = k := by omega
            rw [HX.out, HY.out, HE.out]
        case measure => simp [intOf]; omega
      · have hne2 : (xk != yk) = true := by simp [heq]
        have hd : decide (xs = ys) = false := by
          simp; intro h; subst h
          exact heq (HX.out.symm.trans HY.out)
        have HD := Lib.hid hd
        clear heq hd
        go_wp2
        go_quiet (fail)
        go_wp2
        go_ret
        exact ⟨ret_bool HD.out.symm, _, World.drewN_drewN _ _ _⟩
    · have hd : decide (xs = ys) = true := by
        simp; exact take_eq_of HL.out HA.out (by omega)
      have HD := Lib.hid hd
      clear hd hx hy
      go_wp2
      go_ret
      exact ⟨ret_bool HD.out.symm, _, rfl⟩

end Go.Proofs.Ytgaffbdcpkbdhaa
end

section
/- Walk: catalog.Equal of databases of the same schemas. -/
namespace Go.Proofs.Ytgaffbdcpkbdhaa
open Go.RowKit Go.Sort Go.ChangeMaps Go.WideShapes

set_option maxHeartbeats 4000000 in
set_option maxRecDepth 100000 in
theorem ctEqual1_any (KA KA' A A' : Option Addr) (KC KC' C C' n : Nat) (ks : List Int) (X Y : List RL.R) (w : World) (hn : ks.length = n) (hk : SlI .i64 w.heap.size w KA ks) (hk' : SlI .i64 w.heap.size w KA' ks) (hX : SlRs w.heap.size w A X) (hY : SlRs w.heap.size w A' Y)
    (hkl : n ≤ 1000000) (hXl : X.length ≤ 1000000) (hYl : Y.length ≤ 1000000) (hXo : RsOk X) (hYo : RsOk Y) :
    Calls Try.prog 37 #[.agg #[.slice KA n KC, .int .i64 (n : Nat), .slice A X.length C], .agg #[.slice KA' n KC', .int .i64 (n : Nat), .slice A' Y.length C']] w fun e w' => e = .returned (.bool (decide (X = Y))) ∧ Ext w w' := by
  obtain ⟨W0, hW0⟩ : ∃ W0, W0 = (w.alloc (.cells #[.slice KA n KC, .int .i64 (n : Nat), .slice A X.length C] 80)).alloc (.cells #[.slice KA' n KC', .int .i64 (n : Nat), .slice A' Y.length C'] 80) := ⟨_, rfl⟩
  have hx0 : Ext w W0 := by rw [hW0]; exact ((Ext.refl w).alloc _).alloc _
  have hr1 : Row W0 w.heap.size 80 [.slice KA n KC, .int .i64 (n : Nat), .slice A X.length C] := by rw [hW0]; exact (Row.new w 80 _).alloc _
  have hr2 : Row W0 (w.heap.size + 1) 80 [.slice KA' n KC', .int .i64 (n : Nat), .slice A' Y.length C'] := by
    have h := Row.new (w.alloc (.cells #[.slice KA n KC, .int .i64 (n : Nat), .slice A X.length C] 80)) 80 [.slice KA' n KC', .int .i64 (n : Nat), .slice A' Y.length C']
    rw [World.size_alloc] at h
    rw [hW0]; exact h
  have h1 := eqInt_any KA KA' KC KC' ks ks W0 ((hk.ext (Nat.le_refl _) hx0).more hx0.size) ((hk'.ext (Nat.le_refl _) hx0).more hx0.size) (by omega) (by omega)
  rw [hn, decide_eq_true (show ks = ks from rfl)] at h1
  have HE := Lib.hid h1
  have HQ : Hid (∀ k, Calls Try.prog 39 #[.agg #[.int .i64 (n : Nat), .slice A X.length C], .agg #[.int .i64 (n : Nat), .slice A' Y.length C']] (W0.drewN k) fun e w' => e = .returned (.bool (decide (X = Y))) ∧ Ext (W0.drewN k) w') := fun k => by
    have hx := hx0.drewN k
    have h := rlEqual_any (n : Nat) (n : Nat) A A' C C' X Y (W0.drewN k) (hX.up hx) (hY.up hx) hXl hYl hXo hYo
    rw [decide_eq_true (show ((n : Nat) : Int) = (n : Nat) from rfl), Bool.true_and] at h
    exact h
  have HX0 := Lib.hid hx0
  have HW0 := Lib.hid hW0
  have k0 : W0.cell? ⟨w.heap.size, 0, none⟩ = some (.slice KA n KC) := hr1.cell 0
  have k1 : W0.cell? ⟨w.heap.size, 1, none⟩ = some (.int .i64 (n : Nat)) := hr1.cell 1
  have k2 : W0.cell? ⟨w.heap.size, 2, none⟩ = some (.slice A X.length C) := hr1.cell 2
  have k3 := hr1.lt
  have k4 : W0.cell? ⟨w.heap.size + 1, 0, none⟩ = some (.slice KA' n KC') := hr2.cell 0
  have k5 : W0.cell? ⟨w.heap.size + 1, 1, none⟩ = some (.int .i64 (n : Nat)) := hr2.cell 1
  have k6 : W0.cell? ⟨w.heap.size + 1, 2, none⟩ = some (.slice A' Y.length C') := hr2.cell 2
  have k7 := hr2.lt
  clear hW0 hx0 hr1 hr2 h1 hk hk' hX hY hXo hYo hn
  obtain ⟨q, hq⟩ : ∃ q, q = decide (X = Y) := ⟨_, rfl⟩
  rw [← hq] at HQ ⊢
  clear hq
  go_enter Try.func37, Try.ntmps37
  go_upto_region 1 with (fail)
  rw [← HW0.out]
  clear HW0
  go_wp2_with fail
  refine HE.out.mono ?_
  rintro e w1 ⟨rfl, k, rfl⟩
  go_wp2_with fail
  refine (HQ.out k).mono ?_
  rintro e w2 ⟨rfl, hx2⟩
  have HX2 := Lib.hid ((HX0.out.drewN k).trans hx2)
  clear hx2 HQ HE HX0 k0 k1 k2 k3 k4 k5 k6 k7
  go_wp2_with fail
  go_ret
  exact ⟨rfl, HX2.out⟩

/-- All relations have the same rows. -/
def sameC (S : Sch) (F G : Cont) : Bool := S.all fun p => decide (F p.1 = G p.1)

set_option maxHeartbeats 8000000 in
set_option maxRecDepth 100000 in
theorem ctEqualFunc_any {P P' : Nat → Prop} {S : Sch} {m m' : Value} {F G : Cont} (w : World) (hd : DbM P S w m F) (hd' : DbM P' S w m' G) (_hnd : (S.map Prod.fst).Nodup) :
    Calls Try.prog 36 #[m, m', .func (.func 37) #[] #[]] w fun e w' => e = .returned (.bool (sameC S F G)) ∧ Below w.heap.size w w' := by
  obtain ⟨b, D, rfl, -, hown, hent⟩ := hd.ents
  obtain ⟨b', D', rfl, -, hown', hent'⟩ := hd'.ents
  have hl1 := fun ty => hown.len Try.underlying23 ty
  have hl2 := fun ty => hown'.len Try.underlying23 ty
  rw [hent.1] at hl1
  rw [hent'.1] at hl2
  have HENT := Lib.hid hent
  have HENT' := Lib.hid hent'
  have HOW := Lib.hid hown
  have HOW' := Lib.hid hown'
  have HALL0 : Hid (∀ p ∈ S, Maps.has D (litS p.1) = false → F p.1 = G p.1) := fun p hp h => by
    obtain ⟨v, g, _⟩ := hent.2.2 p hp
    rw [Maps.has_true_of_atKey g] at h
    cases h
  clear hd hd' hown hown' hent hent'
  go_enter Try.func36, Try.ntmps36
  go_wp2_with (first
    | (at_range; refine wpList_range_own _ rfl _ 23 rfl 9 80 keyedS Try.underlying23 heldR b (Maps.size D) D rfl HOW.out ?_; intro w0 hrg0 hg0 hs0)
    | fail)
  go_frame
  have HRG0 := Lib.hid hrg0
  have HB0 : Hid (Below w.heap.size w w0) := (Below.refl _ _).grown hg0 (Nat.le_refl _) (fun j hj => by cases hj)
  obtain ⟨r, hr⟩ : ∃ r, r = w.heap.size := ⟨_, rfl⟩
  rw [← hr] at HRG0 ⊢
  clear hrg0 hg0 hs0 hl1 hl2
  have eg : ∀ args w, (callFunc 37 args).run Try.prog w = .ok (.enter 37 args) w := enters_of Try.func37 (by kernel_rfl) rfl
  have hrw : w.heap.size ≤ r := by omega
  clear hr
  go_loopw [6] (fun c wx => ∃ (left : Lit → Bool) (cnt : Nat), c = .bool false ∧ (∀ p ∈ S, left (litS p.1) = false → F p.1 = G p.1) ∧ wx.ranges Try.prog 9 heldR b r (Maps.size D) D left cnt ∧ Below w.heap.size w wx) (fun _ wx => wx.rangeLeft b r)
  case atStart => exact ⟨_, _, rfl, HALL0.out, HRG0.out, HB0.out⟩
  case round =>
    obtain ⟨left, cnt, rfl, hall, hrg, hb⟩ := hrel
    have HALL := Lib.hid hall
    have HRG := Lib.hid hrg
    have HB := Lib.hid hb
    clear hall hb
    go_wp2_with (first
      | (at_next; refine wpList_next_ranges _ rfl _ rfl 9 keyedS heldR Value.string (fun v : Value => v) (fun key kl h => by obtain ⟨x, e⟩ := Maps.keyOf_string_inv Try.underlying9 h; exact ⟨x, e⟩) (fun v y _ => ⟨v, rfl⟩) b r (Maps.size D) D left cnt rfl HRG.out ?_ ?_)
      | fail)
    · intro hc0 hl0
      have HF : Hid (sameC S F G = true) := List.all_eq_true.2 fun p hp => decide_eq_true (HALL.out p hp (hl0 _))
      clear hc0 hl0 hrg
      go_wp2_with fail
      exact bodyPost_ret (v := .bool true) (by simp [results, Try.results36, go_sem]) rfl ⟨by rw [HF.out], HB.out⟩
    · intro nm c kl y ps w1 cnt1 hkey hlk hv hat hrg1 hlt hg1 hs1 hen
      have hy : y = .held c := by
        unfold heldR at hv
        injection hv with hv
        injection hv with hv
        exact hv.symm
      have hat2 : ∀ z, D.atKey kl z = .held c := fun z => (hat z).trans hy
      obtain ⟨p, hp, rfl⟩ := HENT.out.2.1 kl (Maps.has_true_of_atKey hat2)
      obtain ⟨val, hv1, KA, KC, A, C, rfl, hk6, hki, hxc, hxm, hsl, hro⟩ := HENT.out.2.2 p hp
      have hcv : DataW.held c = .held (.agg #[.slice KA p.2.length KC, .int .i64 (p.2.length : Nat), .slice A (F p.1).length C]) := (hat2 .nil).symm.trans (hv1 .nil)
      injection hcv with hcv
      subst hcv
      obtain ⟨val', hv2, KA', KC', A', C', rfl, -, hki', -, -, hsl', hro'⟩ := HENT'.out.2.2 p hp
      have HB1 : Hid (Below w.heap.size w w1) := HB.out.grown hg1 HB.out.size (fun j hj => by injection hj with hj; omega)
      have HRG1 := Lib.hid hrg1
      have HLE := Lib.hid (HRG.out.left_eq)
      have hlt2 := hlt
      have HLK : Hid (∀ V, Below w.heap.size w V → (Instr.lookup 23 (.map (some b')) (.string nm) true).run Try.prog V = .ok (.tuple #[.agg #[.slice KA' p.2.length KC', .int .i64 (p.2.length : Nat), .slice A' (G p.1).length C'], .bool true]) V) := fun V hb => (look_yes keyedS Try.underlying23 zeroEnt (map_up HOW'.out hb) hkey hv2).1
      have HEQ : Hid (∀ V, Below w.heap.size w V → Calls Try.prog 37 #[.agg #[.slice KA p.2.length KC, .int .i64 (p.2.length : Nat), .slice A (F p.1).length C], .agg #[.slice KA' p.2.length KC', .int .i64 (p.2.length : Nat), .slice A' (G p.1).length C']] V fun e w' => e = .returned (.bool (decide (F p.1 = G p.1))) ∧ Ext V w') := fun V hb =>
        ctEqual1_any KA KA' A A' KC KC' C C' p.2.length p.2 (F p.1) (G p.1) V rfl (Sl.more (Sl.below (SlIP.sl hki) hb (Nat.le_refl _)) hb.size) (Sl.more (Sl.below (SlIP.sl hki') hb (Nat.le_refl _)) hb.size) ((hsl.below hb (Nat.le_refl _)).more hb.size).sl ((hsl'.below hb (Nat.le_refl _)).more hb.size).sl (by omega) (Nat.le_trans hro.many (by decide)) (Nat.le_trans hro'.many (by decide)) (hro.rs (by omega)) (hro'.rs (by omega))
      have HNO : Hid (F p.1 ≠ G p.1 → sameC S F G = false) := fun h => List.all_eq_false.2 ⟨p, hp, by rw [decide_eq_false h]; decide⟩
      have HYES : Hid (F p.1 = G p.1 → ∀ q ∈ S, (left (litS q.1) && !(litS q.1).sameKey (litS p.1)) = false → F q.1 = G q.1) := fun h q hq hl => by
        rcases Bool.and_eq_false_iff.1 hl with hl | hl
        · exact HALL.out q hq hl
        · by_cases e : q.1 = p.1
          · rw [e]; exact h
          · rw [strike_ne e] at hl
            cases hl
      clear hkey hlk hv hat hrg1 hg1 hs1 hy hat2 hp hv1 hrg hlt hki hki' hxc hxm hsl hsl' hro hro' hv2 hk6
      generalize p.2.length = kn at *
      obtain ⟨LF, hLF⟩ : ∃ LF, LF = (F p.1).length := ⟨_, rfl⟩
      obtain ⟨LG, hLG⟩ : ∃ LG, LG = (G p.1).length := ⟨_, rfl⟩
      rw [← hLF] at hen HEQ ⊢
      rw [← hLG] at HLK HEQ
      clear hLF hLG
      obtain ⟨W2, hW2⟩ : ∃ W2, W2 = w1.alloc (.cells #[.slice KA kn KC, .int .i64 (kn : Nat), .slice A LF C] 80) := ⟨_, rfl⟩
      have hx2 : Ext w1 W2 := by rw [hW2]; exact (Ext.refl w1).alloc _
      have hr2 : Row W2 w1.heap.size 80 [.slice KA kn KC, .int .i64 (kn : Nat), .slice A LF C] := by rw [hW2]; exact Row.new w1 80 _
      have HB2 := Lib.hid (Below.then HB1.out hx2.below HB1.out.size)
      have hlk2 := HLK.out W2 HB2.out
      obtain ⟨W3, hW3⟩ : ∃ W3, W3 = W2.alloc (.cells #[.slice KA' kn KC', .int .i64 (kn : Nat), .slice A' LG C'] 80) := ⟨_, rfl⟩
      have hx3 : Ext W2 W3 := by rw [hW3]; exact (Ext.refl W2).alloc _
      have hr3 : Row W3 W2.heap.size 80 [.slice KA' kn KC', .int .i64 (kn : Nat), .slice A' LG C'] := by rw [hW3]; exact Row.new W2 80 _
      have hr23 := hr2.up hx3.below
      have HB3 := Lib.hid (Below.then HB2.out hx3.below HB2.out.size)
      have HRG3 := Lib.hid (ranges_up (ranges_up HRG1.out hx2.below) hx3.below)
      have e0 : W3.cell? ⟨w1.heap.size, 0, none⟩ = some (.slice KA kn KC) := hr23.cell 0
      have e1 : W3.cell? ⟨w1.heap.size, 1, none⟩ = some (.int .i64 (kn : Nat)) := hr23.cell 1
      have e2 : W3.cell? ⟨w1.heap.size, 2, none⟩ = some (.slice A LF C) := hr23.cell 2
      have e3 := hr23.lt
      have e4 : W3.cell? ⟨W2.heap.size, 0, none⟩ = some (.slice KA' kn KC') := hr3.cell 0
      have e5 : W3.cell? ⟨W2.heap.size, 1, none⟩ = some (.int .i64 (kn : Nat)) := hr3.cell 1
      have e6 : W3.cell? ⟨W2.heap.size, 2, none⟩ = some (.slice A' LG C') := hr3.cell 2
      have e7 := hr3.lt
      have HC := Lib.hid (HEQ.out W3 HB3.out)
      have HW2 := Lib.hid hW2
      have HW3 := Lib.hid hW3
      clear hx2 hx3 hr2 hr3 hr23 hW2 hW3 HRG1 HLK HEQ
      go_upto_region 6 with (fail)
      rw [← HW2.out]
      clear hen HW2
      go_upto_region 7 with (fail)
      rw [← HW3.out]
      clear HW3 hlk2
      go_wp2_with fail
      refine HC.out.mono ?_
      rintro e w4 ⟨rfl, hx4⟩
      have HB4 := Lib.hid (Below.then HB3.out hx4.below HB3.out.size)
      have HRG4 := Lib.hid (ranges_up HRG3.out hx4.below)
      clear hx4 HC e0 e1 e2 e3 e4 e5 e6 e7
      by_cases hq : F p.1 = G p.1
      · have HQ := Lib.hid (HYES.out hq)
        have hd : decide (F p.1 = G p.1) = true := decide_eq_true hq
        rw [hd]
        clear hq hd HYES HNO
        go_wp2
        go_roundw
        case rel => exact ⟨_, cnt1, rfl, HQ.out, HRG4.out, HB4.out⟩
        case measure => rw [HRG4.out.left_eq, HLE.out]; exact hlt2
      · have HQ := Lib.hid (HNO.out hq)
        have hd : decide (F p.1 = G p.1) = false := decide_eq_false hq
        rw [hd]
        clear hq hd HYES HNO
        go_wp2
        exact bodyPost_ret (v := .bool false) (by simp [results, Try.results36, go_sem]) rfl ⟨by rw [HQ.out], HB4.out⟩

set_option maxHeartbeats 2000000 in
set_option maxRecDepth 100000 in
theorem ctEqual_any {P P' : Nat → Prop} {S : Sch} {m m' : Value} {F G : Cont} (w : World) (hd : DbM P S w m F) (hd' : DbM P' S w m' G) (hnd : (S.map Prod.fst).Nodup) :
    Calls Try.prog 21 #[.agg #[m], .agg #[m']] w fun e w' => e = .returned (.bool (sameC S F G)) ∧ Below w.heap.size w w' := by
  obtain ⟨b, rfl⟩ := hd.form
  obtain ⟨b', rfl⟩ := hd'.form
  have HC := Lib.hid (fun V (hb : Below w.heap.size w V) => ctEqualFunc_any V (hd.up hb) (hd'.up hb) hnd)
  have hx := (((Ext.refl w).alloc (.cells #[.map (some b)] 25)).alloc (.cells #[.map (some b')] 25)).below
  have HX := Lib.hid hx
  clear hd hd' hx hnd
  go_enter Try.func21, Try.ntmps21
  go_wp2_with fail
  refine (HC.out _ HX.out).mono ?_
  rintro e w1 ⟨rfl, hb⟩
  have HB := Lib.hid (Below.then HX.out hb HX.out.size)
  clear hb HC
  go_wp2_with fail
  go_ret
  exact ⟨rfl, HB.out⟩

end Go.Proofs.Ytgaffbdcpkbdhaa
end

section
/- Words for the arguments of the laws of chapter 16: acts, lists of bools. -/
namespace Go.Proofs.Ytgaffbdcpkbdhaa
open Go.RowKit Go.Sort Go.ChangeMaps Go.WideShapes

def BigW (x : RL.R) : Prop := x.length ≤ 9223372036854775807 ∧ ∀ v ∈ x, v.str.size ≤ 9223372036854775807
/-- A list of bools in memory. -/
def BoolsM (B : Nat) (w : World) (A : Option Addr) (l : List Bool) : Prop :=
  l ≠ [] → ∃ b o, A = some ⟨b, o, none⟩ ∧ b < B ∧ ∀ i (h : i < l.length), w.cell? ⟨b, o + i, none⟩ = some (.bool l[i])
/-- An act of the laws. -/
structure ActR where
  kind : Nat
  num : Int
  us : List Upd
def ActOk (a : ActR) : Prop := a.kind ≤ 255 ∧ (Lit.int .i64 a.num).wf = true ∧ a.us.length ≤ 9223372036854775807 ∧ ∀ u ∈ a.us, u.rel.size ≤ 9223372036854775807 ∧ u.row.length ≤ 9223372036854775807 ∧ BigW u.row
/-- Acts in memory. -/
def ActsM (B : Nat) (w : World) (A : Option Addr) (l : List ActR) : Prop :=
  l ≠ [] → ∃ b o, A = some ⟨b, o, none⟩ ∧ b < B ∧ ∀ i (h : i < l.length), ∃ UA UC, w.cell? ⟨b, o + i * 3, none⟩ = some (.int .u8 (l[i].kind : Nat)) ∧ w.cell? ⟨b, o + i * 3 + 1, none⟩ = some (.int .i64 l[i].num) ∧ w.cell? ⟨b, o + i * 3 + 2, none⟩ = some (.slice UA l[i].us.length UC) ∧ l[i].us.length ≤ UC ∧ UpdsM B w UA l[i].us

end Go.Proofs.Ytgaffbdcpkbdhaa
end

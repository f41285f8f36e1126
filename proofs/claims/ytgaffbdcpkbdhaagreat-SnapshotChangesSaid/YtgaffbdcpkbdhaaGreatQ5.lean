/- Parts of the proof, merged: Z15, Z16, ShelfN, Z40, Z22, Z24, ShelfV, Z17, Z18. -/
import Derived.Test.YtgaffbdcpkbdhaaGreatQ4
import Derived.Sort.MapsRangeIn
import Derived.Shelf.SlIter.Nil
import Derived.Shelf.SortM.Plain
import Derived.Shelf.SortM.SortNone
import Derived.Test.YtgaffbdcpkbdhaaGreatProg
import Derived.Sort.OwnSorted
import Derived.Shelf.AbstractIn
import Derived.Shelf.SlIterI.Nil
import Derived.Sort.OwnSortedInts
import Derived.Deep.DeepCutAuto

section
/- Walk: the reference's Same. -/
namespace Go.Proofs.YtgaffbdcpkbdhaaGreat
open Go.RowKit Go.Sort Go.ChangeMaps Go.WideShapes

set_option maxHeartbeats 2000000 in
set_option maxRecDepth 100000 in
theorem r16Same_any (XA YA : Option Addr) (XC YC : Nat) (xs ys : List Int) (w : World) (hx : SlI .i64 w.heap.size w XA xs) (hy : SlI .i64 w.heap.size w YA ys) (hxl : xs.length ≤ 1000000) (_hyl : ys.length ≤ 1000000) :
    Calls Tryz.prog 17 #[.slice XA xs.length XC, .slice YA ys.length YC] w fun e w' => e = .returned (.bool (decide (xs = ys))) ∧ Ext w w' := by
  have HX := Lib.hid hx
  have HY := Lib.hid hy
  clear hx hy
  by_cases hl : xs.length = ys.length
  rotate_left
  · have hne : ((xs.length : Int) != (ys.length : Int)) = true := by
      have : (xs.length : Int) ≠ (ys.length : Int) := by omega
      simpa using this
    have hd : decide (xs = ys) = false := decide_eq_false (fun e => hl (by rw [e]))
    rw [hd]
    clear hl hd
    go_enter Tryz.func17, Tryz.ntmps17
    go_wp2
    go_ret
    exact ⟨rfl, Ext.refl _⟩
  have hne : ((xs.length : Int) != (ys.length : Int)) = false := by rw [hl]; simp
  have HL := Lib.hid hl
  clear hl
  go_enter Tryz.func17, Tryz.ntmps17
  go_wp2_with fail
  go_loopw [5] (fun c wx => ∃ k : Nat, k ≤ xs.length ∧ c = .int .i64 k ∧ xs.take k = ys.take k ∧ Ext w wx) (fun c _ => xs.length - (intOf c).toNat)
  case atStart => exact ⟨0, Nat.zero_le _, rfl, rfl, Ext.refl _⟩
  case round =>
    obtain ⟨k, hk, rfl, hall, hxr⟩ := hrel
    have HALL := Lib.hid hall
    have HXR := Lib.hid hxr
    clear hall hxr
    by_cases hkl : k < xs.length
    · have hky : k < ys.length := by have := HL.out; omega
      obtain ⟨xb, xo, rfl, hxb, hxc⟩ := HX.out (by intro h0; rw [List.map_eq_nil_iff.1 h0] at hkl; simp at hkl)
      obtain ⟨yb, yo, rfl, hyb, hyc⟩ := HY.out (by intro h0; rw [List.map_eq_nil_iff.1 h0] at hky; simp at hky)
      have c1 := (HXR.out.cell hxb).trans (hxc k (.int .i64 xs[k]) (by rw [List.getElem?_map, List.getElem?_eq_getElem hkl]; rfl))
      have c2 := (HXR.out.cell hyb).trans (hyc k (.int .i64 ys[k]) (by rw [List.getElem?_map, List.getElem?_eq_getElem hky]; rfl))
      have b1 := Nat.lt_of_lt_of_le hxb HXR.out.size
      have b2 := Nat.lt_of_lt_of_le hyb HXR.out.size
      have g1 : (0 : Int) ≤ (k : Int) := by omega
      have g2 : (k : Int) < (xs.length : Int) := by omega
      have g3 : (k : Int) < (ys.length : Int) := by omega
      have hw1 : IntKind.i64.wrap ((k : Int) + 1) = ((k + 1 : Nat) : Int) := by rw [IntWalk.i64_in _ (by omega)]; omega
      have HK1 : Hid (xs[k] = ys[k] → xs.take (k + 1) = ys.take (k + 1)) := fun e => by
        rw [List.take_succ_eq_append_getElem hkl, List.take_succ_eq_append_getElem hky, HALL.out, e]
      have HK2 : Hid (xs[k] ≠ ys[k] → xs ≠ ys) := fun e h => e (by simp only [h])
      clear hxc hyc
      generalize xs[k] = x at *
      generalize ys[k] = y at *
      by_cases he : x = y
      · have hb : (x != y) = false := by rw [he]; simp
        have HK := Lib.hid (HK1.out he)
        clear he HK1 HK2
        go_upto_region 6 with (fail)
        refine wp_region_held_drew (S := (fun w' => w'.cell? ⟨xb, xo + k, none⟩ = some (.int .i64 x) ∧ w'.cell? ⟨yb, yo + k, none⟩ = some (.int .i64 y))) (by kernel_rfl) ⟨c1, c2⟩ (fun hHeld => ?_)
        refine takeOp (i := 0) (v := ?_) (some 17) rfl rfl (by kernel_rfl) (by kernel_rfl) (by kernel_rfl) (fun _ _ _ h => h) (Or.inl ⟨by rfl, ?_⟩) (by assumption) ?_
        rotate_left 1
        · (intro w0 hSw; (try dsimp only at hSw); go_simp; try (with_reducible rfl))
        try simp only [Act.put]
        try simp only [List.setIfInBounds_toArray]
        try simp only [List.set_cons_succ]
        try simp only [List.set_cons_zero]
        refine takeOp (i := 1) (v := ?_) (some 18) rfl rfl (by kernel_rfl) (by kernel_rfl) (by kernel_rfl) (fun _ _ _ h => h) (Or.inl ⟨by rfl, ?_⟩) (by assumption) ?_
        rotate_left 1
        · (intro w0 hSw; (try dsimp only at hSw); go_simp; try (with_reducible rfl))
        try simp only [Act.put]
        try simp only [List.setIfInBounds_toArray]
        try simp only [List.set_cons_succ]
        try simp only [List.set_cons_zero]
        refine takeOp (i := 2) (v := ?_) (some 19) rfl rfl (by kernel_rfl) (by kernel_rfl) (by kernel_rfl) (fun _ _ _ h => h) (Or.inl ⟨by rfl, ?_⟩) (by assumption) ?_
        rotate_left 1
        · (intro w0 hSw; (try dsimp only at hSw); go_simp; try (with_reducible rfl))
        try simp only [Act.put]
        try simp only [List.setIfInBounds_toArray]
        try simp only [List.set_cons_succ]
        try simp only [List.set_cons_zero]
        refine takeOp (i := 3) (v := ?_) (some 20) rfl rfl (by kernel_rfl) (by kernel_rfl) (by kernel_rfl) (fun _ _ _ h => h) (Or.inl ⟨by rfl, ?_⟩) (by assumption) ?_
        rotate_left 1
        · (intro w0 hSw; (try dsimp only at hSw); go_simp; try (with_reducible rfl))
        try simp only [Act.put]
        try simp only [List.setIfInBounds_toArray]
        try simp only [List.set_cons_succ]
        try simp only [List.set_cons_zero]
        refine takeOp (i := 4) (v := ?_) (some 21) rfl rfl (by kernel_rfl) (by kernel_rfl) (by kernel_rfl) (fun _ _ _ h => h) (Or.inl ⟨by rfl, ?_⟩) (by assumption) ?_
        rotate_left 1
        · (intro w0 hSw; (try dsimp only at hSw); go_simp; try (with_reducible rfl))
        try simp only [Act.put]
        try simp only [List.setIfInBounds_toArray]
        try simp only [List.set_cons_succ]
        try simp only [List.set_cons_zero]
        refine takeOp (i := 5) (v := ?_) (some 22) rfl rfl (by kernel_rfl) (by kernel_rfl) (by kernel_rfl) (fun _ _ _ h => h) (Or.inl ⟨by rfl, ?_⟩) (by assumption) ?_
        rotate_left 1
        · (intro w0 hSw; (try dsimp only at hSw); go_simp; try (with_reducible rfl))
        try simp only [Act.put]
        try simp only [List.setIfInBounds_toArray]
        try simp only [List.set_cons_succ]
        try simp only [List.set_cons_zero]
        refine takeOp (i := 6) (v := ?_) (some 23) rfl rfl (by kernel_rfl) (by kernel_rfl) (by kernel_rfl) (fun _ _ _ h => h) (Or.inl ⟨by rfl, ?_⟩) (by assumption) ?_
        rotate_left 1
        · (intro w0 hSw; (try dsimp only at hSw); go_simp; try (with_reducible rfl))
        try simp only [Act.put]
        try simp only [List.setIfInBounds_toArray]
        try simp only [List.set_cons_succ]
        try simp only [List.set_cons_zero]
        refine takeOp (i := 7) (v := ?_) (some 24) rfl rfl (by kernel_rfl) (by kernel_rfl) (by kernel_rfl) (fun _ _ _ h => h) (Or.inl ⟨by rfl, ?_⟩) (by assumption) ?_
        rotate_left 1
        · (intro w0 hSw; (try dsimp only at hSw); go_simp; try (with_reducible rfl))
        try simp only [Act.put]
        try simp only [List.setIfInBounds_toArray]
        try simp only [List.set_cons_succ]
        try simp only [List.set_cons_zero]
        refine takeOp (i := 8) (v := ?_) (some 25) rfl rfl (by kernel_rfl) (by kernel_rfl) (by kernel_rfl) (fun _ _ _ h => h) (Or.inl ⟨by rfl, ?_⟩) (by assumption) ?_
        rotate_left 1
        · (intro w0 hSw; (try dsimp only at hSw); go_simp; try (with_reducible rfl))
        try simp only [Act.put]
        try simp only [List.setIfInBounds_toArray]
        try simp only [List.set_cons_succ]
        try simp only [List.set_cons_zero]
        refine wpAnyH_done (by kernel_rfl) ?_ _
        go_wp2
        go_roundw
        case rel => exact ⟨k + 1, hkl, by go_num, HK.out, HXR.out.drew⟩
        case measure => simp [intOf]; omega
      · have hb : (x != y) = true := by simpa using he
        have HK := Lib.hid (HK2.out he)
        clear he HK1 HK2
        go_upto_region 6 with (fail)
        refine wp_region_held_drew (S := (fun w' => w'.cell? ⟨xb, xo + k, none⟩ = some (.int .i64 x) ∧ w'.cell? ⟨yb, yo + k, none⟩ = some (.int .i64 y))) (by kernel_rfl) ⟨c1, c2⟩ (fun hHeld => ?_)
        refine takeOp (i := 0) (v := ?_) (some 17) rfl rfl (by kernel_rfl) (by kernel_rfl) (by kernel_rfl) (fun _ _ _ h => h) (Or.inl ⟨by rfl, ?_⟩) (by assumption) ?_
        rotate_left 1
        · (intro w0 hSw; (try dsimp only at hSw); go_simp; try (with_reducible rfl))
        try simp only [Act.put]
        try simp only [List.setIfInBounds_toArray]
        try simp only [List.set_cons_succ]
        try simp only [List.set_cons_zero]
        refine takeOp (i := 1) (v := ?_) (some 18) rfl rfl (by kernel_rfl) (by kernel_rfl) (by kernel_rfl) (fun _ _ _ h => h) (Or.inl ⟨by rfl, ?_⟩) (by assumption) ?_
        rotate_left 1
        · (intro w0 hSw; (try dsimp only at hSw); go_simp; try (with_reducible rfl))
        try simp only [Act.put]
        try simp only [List.setIfInBounds_toArray]
        try simp only [List.set_cons_succ]
        try simp only [List.set_cons_zero]
        refine takeOp (i := 2) (v := ?_) (some 19) rfl rfl (by kernel_rfl) (by kernel_rfl) (by kernel_rfl) (fun _ _ _ h => h) (Or.inl ⟨by rfl, ?_⟩) (by assumption) ?_
        rotate_left 1
        · (intro w0 hSw; (try dsimp only at hSw); go_simp; try (with_reducible rfl))
        try simp only [Act.put]
        try simp only [List.setIfInBounds_toArray]
        try simp only [List.set_cons_succ]
        try simp only [List.set_cons_zero]
        refine takeOp (i := 3) (v := ?_) (some 20) rfl rfl (by kernel_rfl) (by kernel_rfl) (by kernel_rfl) (fun _ _ _ h => h) (Or.inl ⟨by rfl, ?_⟩) (by assumption) ?_
        rotate_left 1
        · (intro w0 hSw; (try dsimp only at hSw); go_simp; try (with_reducible rfl))
        try simp only [Act.put]
        try simp only [List.setIfInBounds_toArray]
        try simp only [List.set_cons_succ]
        try simp only [List.set_cons_zero]
        refine takeOp (i := 4) (v := ?_) (some 21) rfl rfl (by kernel_rfl) (by kernel_rfl) (by kernel_rfl) (fun _ _ _ h => h) (Or.inl ⟨by rfl, ?_⟩) (by assumption) ?_
        rotate_left 1
        · (intro w0 hSw; (try dsimp only at hSw); go_simp; try (with_reducible rfl))
        try simp only [Act.put]
        try simp only [List.setIfInBounds_toArray]
        try simp only [List.set_cons_succ]
        try simp only [List.set_cons_zero]
        refine takeOp (i := 5) (v := ?_) (some 22) rfl rfl (by kernel_rfl) (by kernel_rfl) (by kernel_rfl) (fun _ _ _ h => h) (Or.inl ⟨by rfl, ?_⟩) (by assumption) ?_
        rotate_left 1
        · (intro w0 hSw; (try dsimp only at hSw); go_simp; try (with_reducible rfl))
        try simp only [Act.put]
        try simp only [List.setIfInBounds_toArray]
        try simp only [List.set_cons_succ]
        try simp only [List.set_cons_zero]
        refine takeOp (i := 6) (v := ?_) (some 23) rfl rfl (by kernel_rfl) (by kernel_rfl) (by kernel_rfl) (fun _ _ _ h => h) (Or.inl ⟨by rfl, ?_⟩) (by assumption) ?_
        rotate_left 1
        · (intro w0 hSw; (try dsimp only at hSw); go_simp; try (with_reducible rfl))
        try simp only [Act.put]
        try simp only [List.setIfInBounds_toArray]
        try simp only [List.set_cons_succ]
        try simp only [List.set_cons_zero]
        refine takeOp (i := 7) (v := ?_) (some 24) rfl rfl (by kernel_rfl) (by kernel_rfl) (by kernel_rfl) (fun _ _ _ h => h) (Or.inl ⟨by rfl, ?_⟩) (by assumption) ?_
        rotate_left 1
        · (intro w0 hSw; (try dsimp only at hSw); go_simp; try (with_reducible rfl))
        try simp only [Act.put]
        try simp only [List.setIfInBounds_toArray]
        try simp only [List.set_cons_succ]
        try simp only [List.set_cons_zero]
        refine takeOp (i := 8) (v := ?_) (some 25) rfl rfl (by kernel_rfl) (by kernel_rfl) (by kernel_rfl) (fun _ _ _ h => h) (Or.inl ⟨by rfl, ?_⟩) (by assumption) ?_
        rotate_left 1
        · (intro w0 hSw; (try dsimp only at hSw); go_simp; try (with_reducible rfl))
        try simp only [Act.put]
        try simp only [List.setIfInBounds_toArray]
        try simp only [List.set_cons_succ]
        try simp only [List.set_cons_zero]
        refine wpAnyH_done (by kernel_rfl) ?_ _
        go_wp2
        exact bodyPost_ret (v := .bool false) (by simp [results, Tryz.results17, go_sem]) rfl ⟨by rw [decide_eq_false HK.out], HXR.out.drew⟩
    · obtain rfl : k = xs.length := by omega
      have HE : Hid (xs = ys) := by
        have h := HALL.out
        rw [List.take_length, HL.out, List.take_length] at h
        exact h
      go_wp2
      exact bodyPost_ret (v := .bool true) (by simp [results, Tryz.results17, go_sem]) rfl ⟨by rw [decide_eq_true HE.out], HXR.out⟩

end Go.Proofs.YtgaffbdcpkbdhaaGreat
end

section
/- Walk: catalog.Rows. -/
namespace Go.Proofs.YtgaffbdcpkbdhaaGreat
open Go.RowKit Go.Sort Go.ChangeMaps Go.WideShapes

/-- The rows of the relations that are left. -/
def sumL : Sch → Cont → (Lit → Bool) → Nat
  | [], _, _ => 0
  | q :: t, F, left => (if left (litS q.1) = true then (F q.1).length else 0) + sumL t F left
theorem sumL_none (F : Cont) (left : Lit → Bool) (h : ∀ k, left k = false) : ∀ S : Sch, sumL S F left = 0
  | [] => rfl
  | q :: t => by rw [sumL, sumL_none F left h t, h, if_neg (by decide)]
theorem strike_ne {s t : ByteArray} (h : s ≠ t) : (litS s).sameKey (litS t) = false := Maps.sameKey_ne (fun e => h (litS_inj e))
theorem sumL_congr (F : Cont) (left left' : Lit → Bool) : ∀ S : Sch, (∀ p ∈ S, left (litS p.1) = left' (litS p.1)) → sumL S F left = sumL S F left'
  | [], _ => rfl
  | q :: t, h => by rw [sumL, sumL, h q List.mem_cons_self, sumL_congr F left left' t fun p hp => h p (List.mem_cons_of_mem _ hp)]
theorem sumL_step : ∀ (S : Sch) (F : Cont) (left : Lit → Bool) (p : ByteArray × List Int), (S.map Prod.fst).Nodup → p ∈ S → left (litS p.1) = true → sumL S F left = (F p.1).length + sumL S F (fun z => left z && !z.sameKey (litS p.1))
  | q :: t, F, left, p, hn, hp, hl => by
    rw [List.map_cons, List.nodup_cons] at hn
    have hsame : (litS p.1).sameKey (litS p.1) = true := WideAt.sameKey_self (isKeyS _)
    rw [sumL, sumL]
    rcases List.mem_cons.1 hp with rfl | hp
    · have ht : sumL t F (fun z => left z && !z.sameKey (litS p.1)) = sumL t F left := sumL_congr F _ _ t fun r hr => by
        have hne : r.1 ≠ p.1 := fun e => hn.1 (by rw [← e]; exact List.mem_map.2 ⟨r, hr, rfl⟩)
        show (left (litS r.1) && !(litS r.1).sameKey (litS p.1)) = _
        rw [strike_ne hne]
        simp
      rw [ht, if_pos hl]
      show _ = (F p.1).length + ((if (left (litS p.1) && !(litS p.1).sameKey (litS p.1)) = true then _ else 0) + _)
      rw [hsame, if_neg (by simp), Nat.zero_add]
    · have ih := sumL_step t F left p hn.2 hp hl
      have hne : q.1 ≠ p.1 := fun e => hn.1 (by rw [e]; exact List.mem_map.2 ⟨p, hp, rfl⟩)
      show _ = (F p.1).length + ((if (left (litS q.1) && !(litS q.1).sameKey (litS p.1)) = true then (F q.1).length else 0) + _)
      rw [strike_ne hne, ih, Bool.not_false, Bool.and_true]
      omega
theorem sumL_le (F : Cont) (left : Lit → Bool) : ∀ S : Sch, (∀ p ∈ S, (F p.1).length ≤ 4096) → sumL S F left ≤ S.length * 4096
  | [], _ => Nat.zero_le _
  | q :: t, h => by
    have h1 := h q List.mem_cons_self
    have h2 := sumL_le F left t fun p hp => h p (List.mem_cons_of_mem _ hp)
    rw [sumL, List.length_cons]
    split <;> omega
theorem ranges_up {k : TypeId} {w w' : World} {b r n : Nat} {D : DataW Value} {left : Lit → Bool} {cnt : Nat} (h : w.ranges Tryz.prog k heldR b r n D left cnt) (hb : Below w.heap.size w w') : w'.ranges Tryz.prog k heldR b r n D left cnt := by
  have h1 := h.owns.lt
  have h2 := h.lt
  obtain ⟨es, clock, since, seen, c0, g1, F, hs, hD, g2, rest⟩ := h
  exact ⟨es, clock, since, seen, c0, (hb.block b h1).trans g1, F, hs, hD, (hb.block r h2).trans g2, rest⟩
/-- The rows of all relations. -/
def rowsF (S : Sch) (F : Cont) : Nat := sumL S F fun _ => true

set_option maxHeartbeats 4000000 in
set_option maxRecDepth 100000 in
theorem ctRows_any {P : Nat → Prop} {S : Sch} {m : Value} {F : Cont} (w : World) (hd : DbM P S w m F) (hnd : (S.map Prod.fst).Nodup) (hS : S.length ≤ 1000000) :
    Calls Tryz.prog 19 #[.agg #[m]] w fun e w' => e = .returned (.int .i64 (rowsF S F)) ∧ Below w.heap.size w w' := by
  obtain ⟨b, D, rfl, -, hown, hent⟩ := hd.ents
  obtain ⟨W0, hW0⟩ : ∃ W0, W0 = w.alloc (.cells #[.map (some b)] 29) := ⟨_, rfl⟩
  have hr1 : Row W0 w.heap.size 29 [.map (some b)] := by rw [hW0]; exact Row.new w 29 _
  have hx0 : Ext w W0 := by rw [hW0]; exact (Ext.refl w).alloc _
  have f0 : W0.cell? ⟨w.heap.size, 0, none⟩ = some (.map (some b)) := hr1.cell 0
  have z0 := hr1.lt
  have hml : ∀ p ∈ S, (F p.1).length ≤ 4096 := fun p hp => by
    obtain ⟨v, _, _, _, _, _, _, _, _, _, _, _, hro⟩ := hent.2.2 p hp
    exact hro.many
  have HSUM : Hid (∀ left, sumL S F left ≤ 4096000000) := fun left => by have := sumL_le F left S hml; omega
  have HENT := Lib.hid hent
  have HOW := Lib.hid (map_up hown hx0.below)
  have HX0 := Lib.hid hx0
  have HND := Lib.hid hnd
  have HTOT : Hid (sumL S F (Maps.has D) = rowsF S F) := sumL_congr F _ _ S fun p hp => by
    obtain ⟨v, g, _⟩ := hent.2.2 p hp
    exact Maps.has_true_of_atKey g
  clear hd hown hent hnd hr1 hx0 hml hS
  go_enter Tryz.func19, Tryz.ntmps19
  go_upto_region 1 with (fail)
  rw [← hW0]
  clear hW0
  go_wp2_with (first
    | (at_range; refine wpList_range_own _ rfl _ 27 rfl 9 73 keyedS Tryz.underlying27 heldR b (Maps.size D) D rfl HOW.out ?_; intro w0 hrg0 hg0 hs0)
    | fail)
  go_frame
  have HRG0 := Lib.hid hrg0
  have HB0 : Hid (Below w.heap.size w w0) := HX0.out.below.grown hg0 HX0.out.size (fun j hj => by cases hj)
  obtain ⟨r, hr⟩ : ∃ r, r = W0.heap.size := ⟨_, rfl⟩
  rw [← hr] at HRG0 ⊢
  have hrw : w.heap.size ≤ r := by rw [hr]; exact HX0.out.size
  clear hrg0 hg0 hs0 hr
  go_loopw [3] (fun c wx => ∃ (left : Lit → Bool) (cnt n : Nat), c = .int .i64 n ∧ n + sumL S F left = rowsF S F ∧ wx.ranges Tryz.prog 9 heldR b r (Maps.size D) D left cnt ∧ Below w.heap.size w wx) (fun _ wx => wx.rangeLeft b r)
  case atStart => exact ⟨_, _, 0, rfl, by rw [Nat.zero_add]; exact HTOT.out, HRG0.out, HB0.out⟩
  case round =>
    obtain ⟨left, cnt, n, rfl, hn, hrg, hb⟩ := hrel
    have HN := Lib.hid hn
    have HRG := Lib.hid hrg
    have HB := Lib.hid hb
    clear hn hb
    go_wp2_with (first
      | (at_next; refine wpList_next_ranges _ rfl _ rfl 9 keyedS heldR Value.string (fun v : Value => v) (fun key kl h => by obtain ⟨x, e⟩ := Maps.keyOf_string_inv Tryz.underlying9 h; exact ⟨x, e⟩) (fun v y _ => ⟨v, rfl⟩) b r (Maps.size D) D left cnt rfl HRG.out ?_ ?_)
      | fail)
    · intro hc0 hl0
      have HF : Hid (n = rowsF S F) := by have h := HN.out; rw [sumL_none F left hl0 S] at h; exact h
      clear hc0 hl0 hrg
      go_wp2_with fail
      exact bodyPost_ret (v := .int .i64 (n : Nat)) (by simp [results, Tryz.results19, go_sem]) rfl ⟨by rw [HF.out], HB.out⟩
    · intro nm c kl y ps w1 cnt1 hkey hlk hv hat hrg1 hlt hg1 hs1 hen
      have hy : y = .held c := by
        unfold heldR at hv
        injection hv with hv
        injection hv with hv
        exact hv.symm
      have hat2 : ∀ z, D.atKey kl z = .held c := fun z => (hat z).trans hy
      obtain ⟨p, hp, rfl⟩ := HENT.out.2.1 kl (Maps.has_true_of_atKey hat2)
      obtain ⟨val, hv1, KA, KC, A, C, rfl, -, -, -, -, -, -⟩ := HENT.out.2.2 p hp
      have hcv : DataW.held c = .held (.agg #[.slice KA p.2.length KC, .int .i64 (p.2.length : Nat), .slice A (F p.1).length C]) := (hat2 .nil).symm.trans (hv1 .nil)
      injection hcv with hcv
      subst hcv
      have HSTEP := Lib.hid (sumL_step S F left p HND.out hp hlk)
      have HSM := Lib.hid (HSUM.out left)
      have HSM2 := Lib.hid (HSUM.out (Maps.has D))
      have HRG1 := Lib.hid hrg1
      have HB1 : Hid (Below w.heap.size w w1) := HB.out.grown hg1 HB.out.size (fun j hj => by injection hj with hj; omega)
      have HLE := Lib.hid (HRG.out.left_eq)
      have hlt2 := hlt
      clear hkey hlk hv hat hrg1 hg1 hs1 hy hat2 hp hv1 hrg hlt
      generalize p.2.length = kn at *
      obtain ⟨L, hL⟩ : ∃ L, L = (F p.1).length := ⟨_, rfl⟩
      rw [← hL] at hen HSTEP ⊢
      clear hL
      obtain ⟨W2, hW2⟩ : ∃ W2, W2 = w1.alloc (.cells #[.slice KA kn KC, .int .i64 (kn : Nat), .slice A L C] 73) := ⟨_, rfl⟩
      have hx2 : Ext w1 W2 := by rw [hW2]; exact (Ext.refl w1).alloc _
      have hr2 : Row W2 w1.heap.size 73 [.slice KA kn KC, .int .i64 (kn : Nat), .slice A L C] := by rw [hW2]; exact Row.new w1 73 _
      have e1 : W2.cell? ⟨w1.heap.size, 1, none⟩ = some (.int .i64 (kn : Nat)) := hr2.cell 1
      have e2 : W2.cell? ⟨w1.heap.size, 2, none⟩ = some (.slice A L C) := hr2.cell 2
      have e3 := hr2.lt
      have hNN := HN.out
      have hTT := HTOT.out
      have hS1 := HSM2.out
      have hSS := HSTEP.out
      have hwr : IntKind.i64.wrap ((n : Int) + (L : Int)) = ((n + L : Nat) : Int) := by rw [IntWalk.i64_in _ ⟨by omega, by omega⟩]; omega
      have HN2 : Hid (n + L + sumL S F (fun z => left z && !z.sameKey (litS p.1)) = rowsF S F) := by show _ = _; omega
      have HX2 := Lib.hid hx2
      have HW2 := Lib.hid hW2
      clear hx2 hr2 hNN hTT hS1 hSS hW2
      go_upto_region 5 with (fail)
      rw [← HW2.out]
      clear hen HW2
      go_wp2_with fail
      refine (rlLen_any (kn : Nat) A L C W2).mono ?_
      rintro e w3 ⟨rfl, hx3⟩
      have HB13 := Lib.hid (Below.then HX2.out.below hx3.below HX2.out.size)
      clear hx3 e1 e2 e3
      go_wp2_with fail
      go_roundw
      case rel => exact ⟨_, cnt1, n + L, by go_num, HN2.out, ranges_up HRG1.out HB13.out, Below.then HB1.out HB13.out HB1.out.size⟩
      case measure => rw [(ranges_up HRG1.out HB13.out).left_eq, HLE.out]; exact hlt2

end Go.Proofs.YtgaffbdcpkbdhaaGreat
end

section
/- Written by the kit's lay-plain for this seat: the shelf's tables of numbers. -/
namespace Go.Proofs
open Go.Shelf
def YtgaffbdcpkbdhaaGreat.keysN_ren : Go.Shelf.Ren := ⟨fun | 7 => 43 | 10 => 60 | n => n, fun | 23 => 27 | 26 => 9 | 3 => 73 | 28 => 102 | 0 => 0 | 27 => 101 | 33 => 75 | 4 => 4 | n => n, fun | n => n⟩
theorem YtgaffbdcpkbdhaaGreat.keysN : Go.Proofs.SlLaysZ.n7 Tryz.prog YtgaffbdcpkbdhaaGreat.keysN_ren := {
  mixed := by kernel_rfl
  f7 := ⟨Tryz.f43.name, by decide, Tryz.func43.trans (congrArg some (by kernel_rfl))⟩
  f10 := ⟨Tryz.f60.name, by decide, Tryz.func60.trans (congrArg some (by kernel_rfl))⟩
  t0 := Tryz.underlying0
  a0 := Tryz.isAgg0
  z0 := Tryz.sizeOf0
  v0 := Tryz.zeroValue0
  t4 := Tryz.underlying4
  a4 := Tryz.isAgg4
  z4 := Tryz.sizeOf4
  v4 := Tryz.zeroValue4
  t23 := Tryz.underlying27
  a23 := Tryz.isAgg27
  z23 := Tryz.sizeOf27
  v23 := Tryz.zeroValue27
  t26 := Tryz.underlying9
  a26 := Tryz.isAgg9
  z26 := Tryz.sizeOf9
  v26 := Tryz.zeroValue9
  t27 := Tryz.underlying101
  a27 := Tryz.isAgg101
  z27 := Tryz.sizeOf101
  v27 := Tryz.zeroValue101
  t28 := Tryz.underlying102
  a28 := Tryz.isAgg102
  z28 := Tryz.sizeOf102
  v28 := Tryz.zeroValue102
  t33 := Tryz.underlying75
  a33 := Tryz.isAgg75
  z33 := Tryz.sizeOf75
  v33 := Tryz.zeroValue75 }
def YtgaffbdcpkbdhaaGreat.sortedN_ren : Go.Shelf.Ren := ⟨fun | 6 => 42 | 8 => 58 | 9 => 59 | 11 => 79 | 13 => 55 | 12 => 80 | 23 => 76 | 24 => 77 | 14 => 91 | 15 => 92 | 16 => 93 | 17 => 94 | 18 => 95 | 19 => 96 | 20 => 97 | 21 => 98 | 22 => 99 | 25 => 102 | 26 => 86 | 27 => 87 | 28 => 103 | 29 => 104 | 30 => 105 | 31 => 109 | n => n, fun | 26 => 9 | 28 => 102 | 24 => 83 | 0 => 0 | 3 => 3 | 37 => 116 | 48 => 133 | 50 => 135 | 4 => 4 | 40 => 126 | 39 => 125 | 45 => 110 | 5 => 5 | 9 => 9 | 51 => 144 | 55 => 148 | 57 => 157 | 58 => 158 | 33 => 75 | n => n, fun | n => n⟩
theorem YtgaffbdcpkbdhaaGreat.sortedN : Go.Proofs.SlLaysZ.n6 Tryz.prog YtgaffbdcpkbdhaaGreat.sortedN_ren := {
  mixed := by kernel_rfl
  f6 := ⟨Tryz.f42.name, by decide, Tryz.func42.trans (congrArg some (by kernel_rfl))⟩
  f8 := ⟨Tryz.f58.name, by decide, Tryz.func58.trans (congrArg some (by kernel_rfl))⟩
  f11 := ⟨Tryz.f79.name, by decide, Tryz.func79.trans (congrArg some (by kernel_rfl))⟩
  t0 := Tryz.underlying0
  a0 := Tryz.isAgg0
  z0 := Tryz.sizeOf0
  v0 := Tryz.zeroValue0
  t24 := Tryz.underlying83
  a24 := Tryz.isAgg83
  z24 := Tryz.sizeOf83
  v24 := Tryz.zeroValue83
  t26 := Tryz.underlying9
  a26 := Tryz.isAgg9
  z26 := Tryz.sizeOf9
  v26 := Tryz.zeroValue9
  t28 := Tryz.underlying102
  a28 := Tryz.isAgg102
  z28 := Tryz.sizeOf102
  v28 := Tryz.zeroValue102
  i26 := by kernel_rfl }
def YtgaffbdcpkbdhaaGreat.sortN_ren : Go.Shelf.Ren := ⟨fun | 6 => 59 | 8 => 55 | 9 => 80 | 19 => 76 | 20 => 77 | 21 => 91 | 22 => 92 | 23 => 93 | 24 => 94 | 25 => 95 | 26 => 96 | 27 => 97 | 28 => 98 | 29 => 99 | 36 => 102 | 31 => 86 | 32 => 87 | 37 => 103 | 38 => 104 | 39 => 105 | 41 => 109 | n => n, fun | 27 => 83 | 29 => 9 | 3 => 3 | 32 => 116 | 26 => 83 | 0 => 0 | 44 => 133 | 46 => 135 | 4 => 4 | 36 => 126 | 35 => 125 | 41 => 110 | 5 => 5 | 9 => 9 | 53 => 144 | 57 => 148 | 63 => 157 | 64 => 158 | n => n, fun | n => n⟩
theorem YtgaffbdcpkbdhaaGreat.sortN : Go.Proofs.SlLaysM.n6 Tryz.prog YtgaffbdcpkbdhaaGreat.sortN_ren := {
  mixed := by kernel_rfl
  f6 := ⟨Tryz.f59.name, by decide, Tryz.func59.trans (congrArg some (by kernel_rfl))⟩
  f8 := Tryz.func55.trans (congrArg some (by kernel_rfl))
  f9 := ⟨Tryz.f80.name, by decide, Tryz.func80.trans (congrArg some (by kernel_rfl))⟩
  f19 := Tryz.func76.trans (congrArg some (by kernel_rfl))
  f20 := Tryz.func77.trans (congrArg some (by kernel_rfl))
  f21 := ⟨Tryz.f91.name, by decide, Tryz.func91.trans (congrArg some (by kernel_rfl))⟩
  f22 := ⟨Tryz.f92.name, by decide, Tryz.func92.trans (congrArg some (by kernel_rfl))⟩
  f23 := ⟨Tryz.f93.name, by decide, Tryz.func93.trans (congrArg some (by kernel_rfl))⟩
  f24 := ⟨Tryz.f94.name, by decide, Tryz.func94.trans (congrArg some (by kernel_rfl))⟩
  f25 := ⟨Tryz.f95.name, by decide, Tryz.func95.trans (congrArg some (by kernel_rfl))⟩
  f26 := ⟨Tryz.f96.name, by decide, Tryz.func96.trans (congrArg some (by kernel_rfl))⟩
  f27 := ⟨Tryz.f97.name, by decide, Tryz.func97.trans (congrArg some (by kernel_rfl))⟩
  f28 := ⟨Tryz.f98.name, by decide, Tryz.func98.trans (congrArg some (by kernel_rfl))⟩
  f29 := ⟨Tryz.f99.name, by decide, Tryz.func99.trans (congrArg some (by kernel_rfl))⟩
  f31 := Tryz.func86.trans (congrArg some (by kernel_rfl))
  f32 := Tryz.func87.trans (congrArg some (by kernel_rfl))
  f36 := ⟨Tryz.f102.name, by decide, Tryz.func102.trans (congrArg some (by kernel_rfl))⟩
  f37 := ⟨Tryz.f103.name, by decide, Tryz.func103.trans (congrArg some (by kernel_rfl))⟩
  f38 := ⟨Tryz.f104.name, by decide, Tryz.func104.trans (congrArg some (by kernel_rfl))⟩
  f39 := ⟨Tryz.f105.name, by decide, Tryz.func105.trans (congrArg some (by kernel_rfl))⟩
  f41 := ⟨Tryz.f109.name, by decide, Tryz.func109.trans (congrArg some (by kernel_rfl))⟩
  t0 := Tryz.underlying0
  a0 := Tryz.isAgg0
  z0 := Tryz.sizeOf0
  v0 := Tryz.zeroValue0
  t3 := Tryz.underlying3
  a3 := Tryz.isAgg3
  z3 := Tryz.sizeOf3
  v3 := Tryz.zeroValue3
  t4 := Tryz.underlying4
  a4 := Tryz.isAgg4
  z4 := Tryz.sizeOf4
  v4 := Tryz.zeroValue4
  t5 := Tryz.underlying5
  a5 := Tryz.isAgg5
  z5 := Tryz.sizeOf5
  v5 := Tryz.zeroValue5
  t9 := Tryz.underlying9
  a9 := Tryz.isAgg9
  z9 := Tryz.sizeOf9
  v9 := Tryz.zeroValue9
  t26 := Tryz.underlying83
  a26 := Tryz.isAgg83
  z26 := Tryz.sizeOf83
  v26 := Tryz.zeroValue83
  t27 := Tryz.underlying83
  a27 := Tryz.isAgg83
  z27 := Tryz.sizeOf83
  v27 := Tryz.zeroValue83
  t29 := Tryz.underlying9
  a29 := Tryz.isAgg9
  z29 := Tryz.sizeOf9
  v29 := Tryz.zeroValue9
  t32 := Tryz.underlying116
  a32 := Tryz.isAgg116
  z32 := Tryz.sizeOf116
  v32 := Tryz.zeroValue116
  t35 := Tryz.underlying125
  a35 := Tryz.isAgg125
  z35 := Tryz.sizeOf125
  v35 := Tryz.zeroValue125
  t36 := Tryz.underlying126
  a36 := Tryz.isAgg126
  z36 := Tryz.sizeOf126
  v36 := Tryz.zeroValue126
  t41 := Tryz.underlying110
  a41 := Tryz.isAgg110
  z41 := Tryz.sizeOf110
  v41 := Tryz.zeroValue110
  t44 := Tryz.underlying133
  a44 := Tryz.isAgg133
  z44 := Tryz.sizeOf133
  v44 := Tryz.zeroValue133
  t46 := Tryz.underlying135
  a46 := Tryz.isAgg135
  z46 := Tryz.sizeOf135
  v46 := Tryz.zeroValue135
  t53 := Tryz.underlying144
  a53 := Tryz.isAgg144
  z53 := Tryz.sizeOf144
  v53 := Tryz.zeroValue144
  t57 := Tryz.underlying148
  a57 := Tryz.isAgg148
  z57 := Tryz.sizeOf148
  v57 := Tryz.zeroValue148
  t63 := Tryz.underlying157
  a63 := Tryz.isAgg157
  z63 := Tryz.sizeOf157
  v63 := Tryz.zeroValue157
  t64 := Tryz.underlying158
  a64 := Tryz.isAgg158
  z64 := Tryz.sizeOf158
  v64 := Tryz.zeroValue158 }
end Go.Proofs
end

section
/- Walks: slices.Sort at strings; the names of a database. -/
namespace Go.Proofs
open Go.RowKit Go.Maps Go.Sort Go.Shelf

theorem YtgaffbdcpkbdhaaGreat.sortsN (m : Nat) : AnyZ.SortsIn Tryz.prog YtgaffbdcpkbdhaaGreat.sortedN_ren Fence.wide m :=
  ⟨fun blk off cap ss W hH hblk hsz => callsIn_wide.2 (AnyM.slices_Sort_string YtgaffbdcpkbdhaaGreat.sortN blk off cap ss W hH hblk hsz),
   fun p cap W => callsIn_wide.2 (AnyM.slices_Sort_string_none YtgaffbdcpkbdhaaGreat.sortN p cap W)⟩

set_option maxHeartbeats 2000000 in
set_option maxRecDepth 100000 in
theorem YtgaffbdcpkbdhaaGreat.namesD (b nn : Nat) (D0 : DataW Value) (R : Value → Option (DataW Value × List MemPlace)) (w : World) (hown : w.ownsMap Tryz.prog 9 R b nn D0) (hmax : Maps.size D0 ≤ maxLen) (hbytes : Maps.size D0 * 16 ≤ 140737488355328) :
    Calls Tryz.prog 26 #[.agg #[.map (some b)]] w fun e w' => ∃ (v : Value) (ss : List (List UInt8)), e = .returned v ∧ ss.Perm (strKeys D0) ∧
      w'.ownsRow w.heap.size 9 1 v ss.length ((ss.mergeSort (fun x y => decide (x ≤ y))).map encStr) ∧ (v = .slice none 0 0 ↔ ss = []) ∧ Below w.heap.size w w' := by
  refine (callsIn_wide (n := 6)).1 ?_
  have hbl := hown.lt
  obtain ⟨W0, hW0⟩ : ∃ W0, W0 = w.alloc (.cells #[.map (some b)] 29) := ⟨_, rfl⟩
  have hb0 : Below w.heap.size w W0 := by rw [hW0]; exact (Below.refl _ w).alloc (Nat.le_refl _) _
  have hseq : SeqGives Fence.wide 2 Tryz.prog 60 #[.pointer (some ⟨W0.heap.size, 0, none⟩)] encStr (fun ss => ss.Perm (strKeys D0)) (Maps.size D0) (W0.alloc (.cells #[.map (some b)] 27)) :=
    AnyZ.keys_gives (ρ := YtgaffbdcpkbdhaaGreat.keysN_ren) { YtgaffbdcpkbdhaaGreat.keysN with } Fence.wide _ trivial rfl (by have := hb0.size; omega) W0.heap.size b nn D0 _ (by simp) (by simp) (by
      obtain ⟨es, clock, hb, Ft, hs, hD⟩ := hown
      exact ⟨es, clock, (Below.heap_alloc _ _ b (Nat.lt_of_lt_of_le hbl hb0.size)).trans ((hb0.block b hbl).trans hb), Ft, hs, hD⟩)
  have cK : ∀ mb W, CallsIn Fence.wide 5 Tryz.prog 43 #[.map mb] W fun e w' => e = .returned (.func (.func 60) #[] #[.pointer (some ⟨W.heap.size, 0, none⟩)]) ∧ w' = W.alloc (.cells #[.map mb] 27) := fun mb W => AnyZ.keys_in YtgaffbdcpkbdhaaGreat.keysN Fence.wide 5 trivial rfl mb W
  have cS := AnyZ.sorted_in YtgaffbdcpkbdhaaGreat.sortedN Fence.wide 5 trivial trivial trivial trivial rfl (by omega) (YtgaffbdcpkbdhaaGreat.sortsN _) (enters_of Tryz.func59 (by kernel_rfl) rfl) 60 #[.pointer (some ⟨W0.heap.size, 0, none⟩)] trivial (enters_of Tryz.func60 (by kernel_rfl) rfl) _ _ hmax hbytes _ hseq
  change CallsIn _ _ Tryz.prog 42 _ _ _ at cS
  have HW0 := Lib.hid hW0
  clear hW0
  have hfK : Fence.wide.fn 43 := trivial
  have hfS : Fence.wide.fn 42 := trivial
  refine callsIn_of_wp Tryz.func26 rfl trivial ?_ rfl
  simp only [Tryz.ntmps26, List.size_toArray, List.length_cons, List.length_nil, Nat.reduceAdd, Nat.reduceSub, Array.replicate_succ, Array.replicate_zero, List.push_toArray, List.append_toArray, List.nil_append, List.cons_append]
  gi_wp2_with (first
    | (gi_at_call 43; rw [← HW0.out]; refine (cK _ _).mono ?_; rintro e w' ⟨rfl, rfl⟩)
    | (gi_at_call 42; go_loud (refine cS.mono ?_); rintro e w' ⟨v, ss, rfl, hS, hrow, hnil, hb⟩))
  go_ret
  exact ⟨v, ss, rfl, hS, ownsRow_base_a hrow (by have := hb0.size; simp; omega), hnil, (hb0.trans ((Below.refl _ W0).alloc (Nat.le_refl _) _ |>.mono hb0.size)).trans (hb.mono (by have := hb0.size; simp; omega))⟩

end Go.Proofs
namespace Go.Proofs.YtgaffbdcpkbdhaaGreat
open Go.RowKit Go.Sort Go.ChangeMaps Go.WideShapes

theorem ctNames_any {P : Nat → Prop} {S : Sch} {w : World} {m : Value} {F : Cont} (hd : DbM P S w m F) (hnd : (S.map Prod.fst).Nodup) (hSl : S.length ≤ 1000) :
    Calls Tryz.prog 26 #[.agg #[m]] w fun e w' => ∃ A C, ∃ ns : List ByteArray, e = .returned (.slice A ns.length C) ∧ ns.Perm (S.map Prod.fst) ∧ Sl w'.heap.size w' A (ns.map Value.string) ∧ Below w.heap.size w w' := by
  obtain ⟨b, D, rfl, -, hown, hsz, hk1, hk2⟩ := hd
  refine (namesD b _ D heldR w hown (by rw [hsz]; simp only [maxLen]; omega) (by rw [hsz]; omega)).mono ?_
  rintro e w' ⟨v, ss, rfl, hp, hrow, -, hb⟩
  obtain ⟨es, rfl, hpw, hkl⟩ := hown.entries keyedS
  have hks : ∀ p ∈ es, ∃ x, p.1 = .string x := fun p hp => by
    have : Maps.has (.map es) p.1 = true := List.any_eq_true.2 ⟨p, hp, WideAt.sameKey_self (hkl p hp)⟩
    obtain ⟨x, _, e⟩ := hk1 _ this
    exact ⟨_, e⟩
  have hinj : ∀ a b : ByteArray, a.data.toList = b.data.toList → a = b := fun a b h => by
    have := congrArg (fun l : List UInt8 => (⟨l.toArray⟩ : ByteArray)) h
    exact ByteArray.ext (by simpa using this)
  have hnd2 : (S.map fun p => p.1.data.toList).Nodup := List.pairwise_map.2 ((List.pairwise_map.1 hnd).imp fun hne e => hne (hinj _ _ e))
  have hm : ∀ x, x ∈ (S.map fun p => p.1.data.toList) ↔ Maps.has (.map es) (.string x) = true := fun x => by
    rw [List.mem_map]
    constructor
    · rintro ⟨p, hp, rfl⟩
      obtain ⟨val, g, -⟩ := hk2 p hp
      exact Maps.has_true_of_atKey g
    · intro h
      obtain ⟨p, hp, e⟩ := hk1 _ h
      injection e with e
      exact ⟨p, hp, e.symm⟩
  have hq : ss.Perm (S.map fun p => p.1.data.toList) := hp.trans (perm_strKeys hpw hks hnd2 hm).symm
  obtain ⟨A, C, rfl, -, -, hs⟩ := Sl.of_own hrow
  refine ⟨A, C, (ss.mergeSort (fun x y => decide (x ≤ y))).map fun l => (⟨l.toArray⟩ : ByteArray), by simp [List.length_mergeSort], ?_, ?_, hb⟩
  · have h1 := (((List.mergeSort_perm ss (fun x y => decide (x ≤ y))).trans hq).map fun l => (⟨l.toArray⟩ : ByteArray))
    have e : ((S.map fun p => p.1.data.toList).map fun l => (⟨l.toArray⟩ : ByteArray)) = S.map Prod.fst := by
      rw [List.map_map]
      exact List.map_congr_left fun p _ => by simp
    rw [e] at h1
    exact h1
  · rw [List.map_map]
    exact hs

end Go.Proofs.YtgaffbdcpkbdhaaGreat
end

section
/- Words for the arguments of the laws of chapter 16: acts, lists of bools. -/
namespace Go.Proofs.YtgaffbdcpkbdhaaGreat
open Go.RowKit Go.Sort Go.ChangeMaps Go.WideShapes

def BigW (x : RL.R) : Prop := x.length ≤ 9223372036854775807 ∧ ∀ v ∈ x, v.str.size ≤ 9223372036854775807
/-- A list of bools in memory. -/
def BoolsM (B : Nat) (w : World) (A : Option Addr) (l : List Bool) : Prop :=
  l ≠ [] → ∃ b o, A = some ⟨b, o, none⟩ ∧ b < B ∧ ∀ i (h : i < l.length), w.cell? ⟨b, o + i, none⟩ = some (.bool l[i])
/-- An act of the laws. -/
structure ActR where
  kind : Nat
  num : Int
  us : List Upd
def ActOk (a : ActR) : Prop := a.kind ≤ 255 ∧ (Lit.int .i64 a.num).wf = true ∧ a.us.length ≤ 9223372036854775807 ∧ ∀ u ∈ a.us, u.rel.size ≤ 9223372036854775807 ∧ u.row.length ≤ 9223372036854775807 ∧ BigW u.row
/-- Acts in memory. -/
def ActsM (B : Nat) (w : World) (A : Option Addr) (l : List ActR) : Prop :=
  l ≠ [] → ∃ b o, A = some ⟨b, o, none⟩ ∧ b < B ∧ ∀ i (h : i < l.length), ∃ UA UC, w.cell? ⟨b, o + i * 3, none⟩ = some (.int .u8 (l[i].kind : Nat)) ∧ w.cell? ⟨b, o + i * 3 + 1, none⟩ = some (.int .i64 l[i].num) ∧ w.cell? ⟨b, o + i * 3 + 2, none⟩ = some (.slice UA l[i].us.length UC) ∧ l[i].us.length ≤ UC ∧ UpdsM B w UA l[i].us

end Go.Proofs.YtgaffbdcpkbdhaaGreat
end

section
/- Walks: the laws' Few (chapter 08) and few (chapter 16). -/
namespace Go.Proofs.YtgaffbdcpkbdhaaGreat
open Go.RowKit Go.Sort Go.ChangeMaps Go.WideShapes

def fewU (u : Upd) : Bool := decide (u.row.length ≤ 20) && decide (u.rel.size ≤ 100)
def fewB (us : List Upd) : Bool := (us.take 60).all fewU && decide (us.length ≤ 60)
theorem fewB_iff {us : List Upd} : fewB us = true ↔ us.length ≤ 60 ∧ ∀ u ∈ us, u.row.length ≤ 20 ∧ u.rel.size ≤ 100 := by
  unfold fewB
  rw [Bool.and_eq_true, decide_eq_true_eq, List.all_eq_true]
  constructor
  · rintro ⟨h1, h2⟩
    rw [List.take_of_length_le h2] at h1
    exact ⟨h2, fun u hu => by have := h1 u hu; unfold fewU at this; rw [Bool.and_eq_true, decide_eq_true_eq, decide_eq_true_eq] at this; exact this⟩
  · rintro ⟨h1, h2⟩
    rw [List.take_of_length_le h1]
    exact ⟨fun u hu => by unfold fewU; rw [Bool.and_eq_true, decide_eq_true_eq, decide_eq_true_eq]; exact h2 u hu, h1⟩
theorem all_take_succ {α : Type} (p : α → Bool) (l : List α) (k : Nat) (h : k < l.length) : (l.take (k + 1)).all p = ((l.take k).all p && p l[k]) := by
  rw [List.take_succ_eq_append_getElem h, List.all_append]
  simp
theorem all_bad {α : Type} (p : α → Bool) (l : List α) (k n : Nat) (h : k < l.length) (hn : k < n) (hb : p l[k] = false) : (l.take n).all p = false := by
  rw [List.all_eq_false]
  refine ⟨l[k], ?_, by rw [hb]; decide⟩
  rw [List.mem_iff_getElem]
  exact ⟨k, by rw [List.length_take]; omega, by rw [List.getElem_take]⟩

set_option maxHeartbeats 4000000 in
set_option maxRecDepth 100000 in
theorem l08Few_nil (A : Option Addr) (C : Nat) (us : List Upd) (w : World) (hU : UpdsM w.heap.size w A us) (hul : us.length ≤ 9223372036854775807) (hok : ∀ u ∈ us, u.rel.size ≤ 9223372036854775807 ∧ u.row.length ≤ 9223372036854775807) :
    Calls Tryz.prog 20 #[.slice none 0 0, .slice A us.length C] w fun e w' => e = .returned (.bool (fewB us)) ∧ Ext w w' := by
  have HU := Lib.hid hU
  have HO := Lib.hid hok
  clear hU hok
  go_enter Tryz.func20, Tryz.ntmps20
  go_wp2_with fail
  go_loopw [5] (fun c wx => ∃ k : Nat, k ≤ us.length ∧ k ≤ 60 ∧ c = .int .i64 k ∧ (us.take k).all fewU = true ∧ Ext w wx) (fun c _ => us.length - (intOf c).toNat)
  case atStart => exact ⟨0, Nat.zero_le _, by decide, rfl, rfl, Ext.refl _⟩
  case round =>
    obtain ⟨k, hk, hk6, rfl, hall, hxr⟩ := hrel
    have HALL := Lib.hid hall
    have HXR := Lib.hid hxr
    clear hall hxr
    by_cases hkl : k < us.length
    · have r1 : (k : Int) < (us.length : Int) := by omega
      by_cases hk60 : k < 60
      · have r2 : (k : Int) < 60 := by omega
        obtain ⟨b, o, rfl, hb, hc⟩ := HU.out (by intro h0; rw [h0] at hkl; simp at hkl)
        obtain ⟨RA, RC, c0, c1, c2, -⟩ := hc k hkl
        have c1 := (HXR.out.cell hb).trans c1
        have c2 := (HXR.out.cell hb).trans c2
        have b1 := Nat.lt_of_lt_of_le hb HXR.out.size
        have r0 : (0 : Int) ≤ (k : Int) := by omega
        have r3 : IntKind.i64.wrap ((k : Int) + 1) = ((k + 1 : Nat) : Int) := by rw [IntWalk.i64_in _ (by omega)]; omega
        have HT := Lib.hid (all_take_succ fewU us k hkl)
        have HBD := Lib.hid (all_bad fewU us k 60 hkl hk60)
        obtain ⟨o1, o2⟩ := HO.out us[k] (List.getElem_mem hkl)
        clear c0 hc
        have HF : Hid (fewU us[k] = (decide (us[k].row.length ≤ 20) && decide (us[k].rel.size ≤ 100))) := rfl
        generalize us[k] = u at *
        by_cases h20 : 20 < u.row.length
        · have q1 : (20 : Int) < (u.row.length : Int) := by omega
          have HB : Hid (fewB us = false) := by
            show fewB us = false
            unfold fewB
            rw [HBD.out (by rw [HF.out, decide_eq_false (by omega)]; rfl)]
            rfl
          clear h20
          go_wp2
          exact bodyPost_ret (v := .bool false) (by simp [results, Tryz.results20, go_sem]) rfl ⟨by rw [HB.out], HXR.out⟩
        · have q1 : ¬ (20 : Int) < (u.row.length : Int) := by omega
          by_cases h100 : 100 < u.rel.size
          · have q2 : (100 : Int) < (u.rel.size : Int) := by omega
            have HB : Hid (fewB us = false) := by
              show fewB us = false
              unfold fewB
              rw [HBD.out (by rw [HF.out, decide_eq_false (show ¬ u.rel.size ≤ 100 by omega), Bool.and_false])]
              rfl
            clear h100
            go_wp2
            exact bodyPost_ret (v := .bool false) (by simp [results, Tryz.results20, go_sem]) rfl ⟨by rw [HB.out], HXR.out⟩
          · have q2 : ¬ (100 : Int) < (u.rel.size : Int) := by omega
            have HK : Hid ((us.take (k + 1)).all fewU = true) := by
              show _ = true
              rw [HT.out, HALL.out, HF.out, decide_eq_true (by omega), decide_eq_true (by omega)]
              rfl
            clear h20 h100
            go_wp2
            go_roundw
            case rel => exact ⟨k + 1, hkl, hk60, by go_num, HK.out, HXR.out⟩
            case measure => simp [intOf]; omega
      · have r2 : ¬ (k : Int) < 60 := by omega
        obtain rfl : k = 60 := by omega
        have q : ¬ (us.length : Int) ≤ 60 := by omega
        have HB : Hid (fewB us = false) := by
          show fewB us = false
          unfold fewB
          rw [decide_eq_false (show ¬ us.length ≤ 60 by omega), Bool.and_false]
        go_wp2
        exact bodyPost_ret (v := .bool false) (by simp [results, Tryz.results20, go_sem]) rfl ⟨by rw [HB.out], HXR.out⟩
    · obtain rfl : k = us.length := by omega
      have r1 : ¬ (us.length : Int) < (us.length : Int) := by omega
      have q : (us.length : Int) ≤ 60 := by omega
      have HB : Hid (fewB us = true) := by
        show fewB us = true
        unfold fewB
        rw [List.take_of_length_le hk6, decide_eq_true hk6, Bool.and_true]
        have h := HALL.out
        rwa [List.take_length] at h
      go_wp2
      exact bodyPost_ret (v := .bool true) (by simp [results, Tryz.results20, go_sem]) rfl ⟨by rw [HB.out], HXR.out⟩

def fewA (a : ActR) : Bool := fewB a.us && decide (a.us.length ≤ 12)
def fewL (l : List ActR) : Bool := (l.take 40).all fewA && decide (l.length ≤ 40)
/-- Acts that may be played. -/
def ActFit (a : ActR) : Prop := a.kind ≤ 255 ∧ (Lit.int .i64 a.num).wf = true ∧ a.us.length ≤ 12 ∧ ∀ u ∈ a.us, u.rel.size ≤ 100 ∧ u.row.length ≤ 20 ∧ BigW u.row
theorem ActFit.upd {a : ActR} (h : ActFit a) : ∀ u ∈ a.us, UpdOk u := fun u hu => by
  obtain ⟨h1, h2, h3⟩ := h.2.2.2 u hu
  exact ⟨by omega, by omega, h3.2⟩
theorem fewL_fit {l : List ActR} (h : fewL l = true) (hl : ∀ a ∈ l, ActOk a) : l.length ≤ 40 ∧ ∀ a ∈ l, ActFit a := by
  unfold fewL at h
  rw [Bool.and_eq_true, decide_eq_true_eq] at h
  obtain ⟨h1, h2⟩ := h
  rw [List.take_of_length_le h2, List.all_eq_true] at h1
  refine ⟨h2, fun a ha => ?_⟩
  have := h1 a ha
  unfold fewA at this
  rw [Bool.and_eq_true, decide_eq_true_eq, fewB_iff] at this
  obtain ⟨⟨g1, g2⟩, g3⟩ := this
  obtain ⟨k1, k2, k3, k4⟩ := hl a ha
  exact ⟨k1, k2, g3, fun u hu => ⟨(g2 u hu).2, (g2 u hu).1, (k4 u hu).2.2⟩⟩
theorem fewL_fit' {l : List ActR} (h : fewL l = false) : ¬ (l.length ≤ 40 ∧ ∀ a ∈ l, ActFit a) := by
  rintro ⟨h1, h2⟩
  unfold fewL at h
  rw [List.take_of_length_le h1, decide_eq_true h1, Bool.and_true, List.all_eq_false] at h
  obtain ⟨a, ha, h⟩ := h
  refine h ?_
  obtain ⟨k1, k2, k3, k4⟩ := h2 a ha
  unfold fewA
  rw [Bool.and_eq_true, decide_eq_true_eq, fewB_iff]
  exact ⟨⟨by omega, fun u hu => ⟨(k4 u hu).2.1, (k4 u hu).1⟩⟩, k3⟩
theorem UpdsM.ext {B : Nat} {w w' : World} {A : Option Addr} {us : List Upd} (h : UpdsM B w A us) (hB : B ≤ w.heap.size) (he : Ext w w') : UpdsM B w' A us := fun hn => by
  obtain ⟨b, o, e, hb, hc⟩ := h hn
  exact ⟨b, o, e, hb, fun i hi => by
    obtain ⟨RA, RC, g0, g1, g2, g3⟩ := hc i hi
    have hb' : b < w.heap.size := Nat.lt_of_lt_of_le hb hB
    exact ⟨RA, RC, (he.cell hb').trans g0, (he.cell hb').trans g1, (he.cell hb').trans g2, g3.ext hB he⟩⟩
theorem UpdsM.below {B C : Nat} {w w' : World} {A : Option Addr} {us : List Upd} (h : UpdsM B w A us) (hb : Below C w w') (hC : B ≤ C) : UpdsM B w' A us := fun hn => by
  obtain ⟨b, o, e, hlt, hc⟩ := h hn
  exact ⟨b, o, e, hlt, fun i hi => by
    obtain ⟨RA, RC, g0, g1, g2, g3⟩ := hc i hi
    have hb' : b < C := Nat.lt_of_lt_of_le hlt hC
    exact ⟨RA, RC, (hb.cell hb').trans g0, (hb.cell hb').trans g1, (hb.cell hb').trans g2, g3.below hb hC⟩⟩
theorem UpdsM.more {B B' : Nat} {w : World} {A : Option Addr} {us : List Upd} (h : UpdsM B w A us) (hB : B ≤ B') : UpdsM B' w A us := fun hn => by
  obtain ⟨b, o, e, hlt, hc⟩ := h hn
  exact ⟨b, o, e, Nat.lt_of_lt_of_le hlt hB, fun i hi => by
    obtain ⟨RA, RC, g0, g1, g2, g3⟩ := hc i hi
    exact ⟨RA, RC, g0, g1, g2, g3.more hB⟩⟩
theorem ActsM.below {B C : Nat} {w w' : World} {A : Option Addr} {l : List ActR} (h : ActsM B w A l) (hb : Below C w w') (hC : B ≤ C) : ActsM B w' A l := fun hn => by
  obtain ⟨b, o, e, hlt, hc⟩ := h hn
  exact ⟨b, o, e, hlt, fun i hi => by
    obtain ⟨UA, UC, g0, g1, g2, g3, g4⟩ := hc i hi
    have hb' : b < C := Nat.lt_of_lt_of_le hlt hC
    exact ⟨UA, UC, (hb.cell hb').trans g0, (hb.cell hb').trans g1, (hb.cell hb').trans g2, g3, g4.below hb hC⟩⟩
theorem ActsM.more {B B' : Nat} {w : World} {A : Option Addr} {l : List ActR} (h : ActsM B w A l) (hB : B ≤ B') : ActsM B' w A l := fun hn => by
  obtain ⟨b, o, e, hlt, hc⟩ := h hn
  exact ⟨b, o, e, Nat.lt_of_lt_of_le hlt hB, fun i hi => by
    obtain ⟨UA, UC, g0, g1, g2, g3, g4⟩ := hc i hi
    exact ⟨UA, UC, g0, g1, g2, g3, g4.more hB⟩⟩

set_option maxHeartbeats 4000000 in
set_option maxRecDepth 100000 in
theorem l16few_any (A : Option Addr) (C : Nat) (l : List ActR) (w : World) (hL : ActsM w.heap.size w A l) (hll : l.length ≤ 9223372036854775807) (hok : ∀ a ∈ l, ActOk a) :
    Calls Tryz.prog 6 #[.slice A l.length C] w fun e w' => e = .returned (.bool (fewL l)) ∧ Ext w w' := by
  have HU := Lib.hid hL
  have HO := Lib.hid hok
  clear hL hok
  go_enter Tryz.func6, Tryz.ntmps6
  go_wp2_with fail
  go_loopw [3] (fun c wx => ∃ k : Nat, k ≤ l.length ∧ k ≤ 40 ∧ c = .int .i64 k ∧ (l.take k).all fewA = true ∧ Ext w wx) (fun c _ => l.length - (intOf c).toNat)
  case atStart => exact ⟨0, Nat.zero_le _, by decide, rfl, rfl, Ext.refl _⟩
  case round =>
    obtain ⟨k, hk, hk4, rfl, hall, hxr⟩ := hrel
    have HALL := Lib.hid hall
    have HXR := Lib.hid hxr
    clear hall hxr
    by_cases hkl : k < l.length
    · have r1 : (k : Int) < (l.length : Int) := by omega
      by_cases hk40 : k < 40
      · have r2 : (k : Int) < 40 := by omega
        obtain ⟨b, o, rfl, hb, hc⟩ := HU.out (by intro h0; rw [h0] at hkl; simp at hkl)
        obtain ⟨UA, UC, c0, c1, c2, -, hu⟩ := hc k hkl
        have c2 := (HXR.out.cell hb).trans c2
        have b1 := Nat.lt_of_lt_of_le hb HXR.out.size
        have r0 : (0 : Int) ≤ (k : Int) := by omega
        have r3 : IntKind.i64.wrap ((k : Int) + 1) = ((k + 1 : Nat) : Int) := by rw [IntWalk.i64_in _ (by omega)]; omega
        have HT := Lib.hid (all_take_succ fewA l k hkl)
        have HBD := Lib.hid (all_bad fewA l k 40 hkl hk40)
        obtain ⟨o1, o2, o3, o4⟩ := HO.out l[k] (List.getElem_mem hkl)
        have HF : Hid (fewA l[k] = (fewB l[k].us && decide (l[k].us.length ≤ 12))) := rfl
        generalize l[k] = a at *
        obtain ⟨kd, nm, us⟩ := a
        have c2 : wr.cell? ⟨b, o + k * 3 + 2, none⟩ = some (.slice UA us.length UC) := c2
        have HCF := Lib.hid (l08Few_nil UA UC us wr ((hu.ext (Nat.le_refl _) HXR.out).more HXR.out.size) o3 (fun u hu => ⟨(o4 u hu).1, (o4 u hu).2.1⟩))
        have o3 : us.length ≤ 9223372036854775807 := o3
        clear c0 c1 hc hu o1 o2 o4
        cases hfb : fewB us with
        | false =>
          have HB : Hid (fewL l = false) := by
            show fewL l = false
            unfold fewL
            rw [HBD.out (by rw [HF.out]; show (fewB us && _) = false; rw [hfb]; rfl)]
            rfl
          rw [hfb] at HCF
          clear hfb
          go_wp2_with fail
          refine HCF.out.mono ?_
          rintro e w5 ⟨rfl, hx5⟩
          have HX5 := Lib.hid (HXR.out.trans hx5)
          clear hx5 HCF HXR c2 b1
          go_wp2_with fail
          exact bodyPost_ret (v := .bool false) (by simp [results, Tryz.results6, go_sem]) rfl ⟨by rw [HB.out], HX5.out⟩
        | true =>
          rw [hfb] at HCF
          have HFB := Lib.hid hfb
          clear hfb
          by_cases h12 : 12 < us.length
          · have q2 : (12 : Int) < (us.length : Int) := by omega
            have HB : Hid (fewL l = false) := by
              show fewL l = false
              unfold fewL
              rw [HBD.out (by rw [HF.out]; show (_ && decide (us.length ≤ 12)) = false; rw [decide_eq_false (show ¬ us.length ≤ 12 by omega), Bool.and_false])]
              rfl
            clear h12
            go_wp2_with fail
            refine HCF.out.mono ?_
            rintro e w5 ⟨rfl, hx5⟩
            have HX5 := Lib.hid (HXR.out.trans hx5)
            have c2 := (hx5.cell b1).trans c2
            have b1 := Nat.lt_of_lt_of_le b1 hx5.size
            clear hx5 HCF HXR
            go_wp2_with fail
            exact bodyPost_ret (v := .bool false) (by simp [results, Tryz.results6, go_sem]) rfl ⟨by rw [HB.out], HX5.out⟩
          · have q2 : ¬ (12 : Int) < (us.length : Int) := by omega
            have HK : Hid ((l.take (k + 1)).all fewA = true) := by
              show _ = true
              rw [HT.out, HALL.out, HF.out]
              show (true && (fewB us && decide (us.length ≤ 12))) = true
              rw [HFB.out, decide_eq_true (by omega)]
              rfl
            clear h12
            go_wp2_with fail
            refine HCF.out.mono ?_
            rintro e w5 ⟨rfl, hx5⟩
            have HX5 := Lib.hid (HXR.out.trans hx5)
            have c2 := (hx5.cell b1).trans c2
            have b1 := Nat.lt_of_lt_of_le b1 hx5.size
            clear hx5 HCF HXR
            go_wp2_with fail
            go_roundw
            case rel => exact ⟨k + 1, hkl, hk40, by go_num, HK.out, HX5.out⟩
            case measure => simp [intOf]; omega
      · have r2 : ¬ (k : Int) < 40 := by omega
        obtain rfl : k = 40 := by omega
        have q : ¬ (l.length : Int) ≤ 40 := by omega
        have HB : Hid (fewL l = false) := by
          show fewL l = false
          unfold fewL
          rw [decide_eq_false (show ¬ l.length ≤ 40 by omega), Bool.and_false]
        go_wp2
        exact bodyPost_ret (v := .bool false) (by simp [results, Tryz.results6, go_sem]) rfl ⟨by rw [HB.out], HXR.out⟩
    · obtain rfl : k = l.length := by omega
      have r1 : ¬ (l.length : Int) < (l.length : Int) := by omega
      have q : (l.length : Int) ≤ 40 := by omega
      have HB : Hid (fewL l = true) := by
        show fewL l = true
        unfold fewL
        rw [List.take_of_length_le hk4, decide_eq_true hk4, Bool.and_true]
        have h := HALL.out
        rwa [List.take_length] at h
      go_wp2
      exact bodyPost_ret (v := .bool true) (by simp [results, Tryz.results6, go_sem]) rfl ⟨by rw [HB.out], HXR.out⟩

end Go.Proofs.YtgaffbdcpkbdhaaGreat
end

section
/- Written by the kit's lay-plain for this seat: the shelf's tables of numbers. -/
namespace Go.Proofs
open Go.Shelf
def YtgaffbdcpkbdhaaGreat.keysV_ren : Go.Shelf.Ren := ⟨fun | 7 => 39 | 10 => 57 | n => n, fun | 23 => 33 | 26 => 3 | 3 => 80 | 28 => 98 | 0 => 0 | 27 => 97 | 33 => 117 | 4 => 4 | n => n, fun | n => n⟩
theorem YtgaffbdcpkbdhaaGreat.keysV : Go.Proofs.SlLaysZI.n7 Tryz.prog YtgaffbdcpkbdhaaGreat.keysV_ren := {
  mixed := by kernel_rfl
  f7 := ⟨Tryz.f39.name, by decide, Tryz.func39.trans (congrArg some (by kernel_rfl))⟩
  f10 := ⟨Tryz.f57.name, by decide, Tryz.func57.trans (congrArg some (by kernel_rfl))⟩
  t0 := Tryz.underlying0
  a0 := Tryz.isAgg0
  z0 := Tryz.sizeOf0
  v0 := Tryz.zeroValue0
  t4 := Tryz.underlying4
  a4 := Tryz.isAgg4
  z4 := Tryz.sizeOf4
  v4 := Tryz.zeroValue4
  t23 := Tryz.underlying33
  a23 := Tryz.isAgg33
  z23 := Tryz.sizeOf33
  v23 := Tryz.zeroValue33
  t26 := Tryz.underlying3
  a26 := Tryz.isAgg3
  z26 := Tryz.sizeOf3
  v26 := Tryz.zeroValue3
  t27 := Tryz.underlying97
  a27 := Tryz.isAgg97
  z27 := Tryz.sizeOf97
  v27 := Tryz.zeroValue97
  t28 := Tryz.underlying98
  a28 := Tryz.isAgg98
  z28 := Tryz.sizeOf98
  v28 := Tryz.zeroValue98
  t33 := Tryz.underlying117
  a33 := Tryz.isAgg117
  z33 := Tryz.sizeOf117
  v33 := Tryz.zeroValue117 }
def YtgaffbdcpkbdhaaGreat.sortedV_ren : Go.Shelf.Ren := ⟨fun | 6 => 38 | 8 => 56 | 9 => 37 | 11 => 78 | 13 => 55 | 12 => 54 | 23 => 76 | 24 => 77 | 14 => 67 | 15 => 68 | 16 => 69 | 17 => 70 | 18 => 71 | 19 => 72 | 20 => 73 | 21 => 74 | 22 => 75 | 25 => 85 | 26 => 86 | 27 => 87 | 28 => 88 | 29 => 89 | 30 => 90 | 31 => 101 | n => n, fun | 26 => 3 | 28 => 98 | 24 => 53 | 0 => 0 | 3 => 3 | 37 => 116 | 48 => 133 | 50 => 135 | 4 => 4 | 40 => 126 | 39 => 125 | 45 => 110 | 5 => 5 | 9 => 9 | 51 => 144 | 55 => 148 | 57 => 157 | 58 => 158 | 33 => 117 | n => n, fun | n => n⟩
theorem YtgaffbdcpkbdhaaGreat.sortedV : Go.Proofs.SlLaysZI.n6 Tryz.prog YtgaffbdcpkbdhaaGreat.sortedV_ren := {
  mixed := by kernel_rfl
  f6 := ⟨Tryz.f38.name, by decide, Tryz.func38.trans (congrArg some (by kernel_rfl))⟩
  f8 := ⟨Tryz.f56.name, by decide, Tryz.func56.trans (congrArg some (by kernel_rfl))⟩
  f11 := ⟨Tryz.f78.name, by decide, Tryz.func78.trans (congrArg some (by kernel_rfl))⟩
  t0 := Tryz.underlying0
  a0 := Tryz.isAgg0
  z0 := Tryz.sizeOf0
  v0 := Tryz.zeroValue0
  t24 := Tryz.underlying53
  a24 := Tryz.isAgg53
  z24 := Tryz.sizeOf53
  v24 := Tryz.zeroValue53
  t26 := Tryz.underlying3
  a26 := Tryz.isAgg3
  z26 := Tryz.sizeOf3
  v26 := Tryz.zeroValue3
  t28 := Tryz.underlying98
  a28 := Tryz.isAgg98
  z28 := Tryz.sizeOf98
  v28 := Tryz.zeroValue98
  i26 := by kernel_rfl }
def YtgaffbdcpkbdhaaGreat.sortV_ren : Go.Shelf.Ren := ⟨fun | 5 => 37 | 8 => 55 | 7 => 54 | 19 => 76 | 20 => 77 | 10 => 67 | 11 => 68 | 12 => 69 | 13 => 70 | 14 => 71 | 15 => 72 | 16 => 73 | 17 => 74 | 18 => 75 | 30 => 85 | 31 => 86 | 32 => 87 | 33 => 88 | 34 => 89 | 35 => 90 | 40 => 101 | n => n, fun | 23 => 53 | 25 => 3 | 3 => 3 | 32 => 116 | 22 => 53 | 0 => 0 | 44 => 133 | 46 => 135 | 4 => 4 | 36 => 126 | 35 => 125 | 41 => 110 | 5 => 5 | 9 => 9 | 53 => 144 | 57 => 148 | 63 => 157 | 64 => 158 | n => n, fun | n => n⟩
theorem YtgaffbdcpkbdhaaGreat.sortV : Go.Proofs.SlLaysM.n5 Tryz.prog YtgaffbdcpkbdhaaGreat.sortV_ren := {
  mixed := by kernel_rfl
  f5 := ⟨Tryz.f37.name, by decide, Tryz.func37.trans (congrArg some (by kernel_rfl))⟩
  f7 := ⟨Tryz.f54.name, by decide, Tryz.func54.trans (congrArg some (by kernel_rfl))⟩
  f8 := Tryz.func55.trans (congrArg some (by kernel_rfl))
  f10 := ⟨Tryz.f67.name, by decide, Tryz.func67.trans (congrArg some (by kernel_rfl))⟩
  f11 := ⟨Tryz.f68.name, by decide, Tryz.func68.trans (congrArg some (by kernel_rfl))⟩
  f12 := ⟨Tryz.f69.name, by decide, Tryz.func69.trans (congrArg some (by kernel_rfl))⟩
  f13 := ⟨Tryz.f70.name, by decide, Tryz.func70.trans (congrArg some (by kernel_rfl))⟩
  f14 := ⟨Tryz.f71.name, by decide, Tryz.func71.trans (congrArg some (by kernel_rfl))⟩
  f15 := ⟨Tryz.f72.name, by decide, Tryz.func72.trans (congrArg some (by kernel_rfl))⟩
  f16 := ⟨Tryz.f73.name, by decide, Tryz.func73.trans (congrArg some (by kernel_rfl))⟩
  f17 := ⟨Tryz.f74.name, by decide, Tryz.func74.trans (congrArg some (by kernel_rfl))⟩
  f18 := ⟨Tryz.f75.name, by decide, Tryz.func75.trans (congrArg some (by kernel_rfl))⟩
  f19 := Tryz.func76.trans (congrArg some (by kernel_rfl))
  f20 := Tryz.func77.trans (congrArg some (by kernel_rfl))
  f30 := ⟨Tryz.f85.name, by decide, Tryz.func85.trans (congrArg some (by kernel_rfl))⟩
  f31 := Tryz.func86.trans (congrArg some (by kernel_rfl))
  f32 := Tryz.func87.trans (congrArg some (by kernel_rfl))
  f33 := ⟨Tryz.f88.name, by decide, Tryz.func88.trans (congrArg some (by kernel_rfl))⟩
  f34 := ⟨Tryz.f89.name, by decide, Tryz.func89.trans (congrArg some (by kernel_rfl))⟩
  f35 := ⟨Tryz.f90.name, by decide, Tryz.func90.trans (congrArg some (by kernel_rfl))⟩
  f40 := ⟨Tryz.f101.name, by decide, Tryz.func101.trans (congrArg some (by kernel_rfl))⟩
  t0 := Tryz.underlying0
  a0 := Tryz.isAgg0
  z0 := Tryz.sizeOf0
  v0 := Tryz.zeroValue0
  t3 := Tryz.underlying3
  a3 := Tryz.isAgg3
  z3 := Tryz.sizeOf3
  v3 := Tryz.zeroValue3
  t4 := Tryz.underlying4
  a4 := Tryz.isAgg4
  z4 := Tryz.sizeOf4
  v4 := Tryz.zeroValue4
  t5 := Tryz.underlying5
  a5 := Tryz.isAgg5
  z5 := Tryz.sizeOf5
  v5 := Tryz.zeroValue5
  t9 := Tryz.underlying9
  a9 := Tryz.isAgg9
  z9 := Tryz.sizeOf9
  v9 := Tryz.zeroValue9
  t22 := Tryz.underlying53
  a22 := Tryz.isAgg53
  z22 := Tryz.sizeOf53
  v22 := Tryz.zeroValue53
  t23 := Tryz.underlying53
  a23 := Tryz.isAgg53
  z23 := Tryz.sizeOf53
  v23 := Tryz.zeroValue53
  t25 := Tryz.underlying3
  a25 := Tryz.isAgg3
  z25 := Tryz.sizeOf3
  v25 := Tryz.zeroValue3
  t32 := Tryz.underlying116
  a32 := Tryz.isAgg116
  z32 := Tryz.sizeOf116
  v32 := Tryz.zeroValue116
  t35 := Tryz.underlying125
  a35 := Tryz.isAgg125
  z35 := Tryz.sizeOf125
  v35 := Tryz.zeroValue125
  t36 := Tryz.underlying126
  a36 := Tryz.isAgg126
  z36 := Tryz.sizeOf126
  v36 := Tryz.zeroValue126
  t41 := Tryz.underlying110
  a41 := Tryz.isAgg110
  z41 := Tryz.sizeOf110
  v41 := Tryz.zeroValue110
  t44 := Tryz.underlying133
  a44 := Tryz.isAgg133
  z44 := Tryz.sizeOf133
  v44 := Tryz.zeroValue133
  t46 := Tryz.underlying135
  a46 := Tryz.isAgg135
  z46 := Tryz.sizeOf135
  v46 := Tryz.zeroValue135
  t53 := Tryz.underlying144
  a53 := Tryz.isAgg144
  z53 := Tryz.sizeOf144
  v53 := Tryz.zeroValue144
  t57 := Tryz.underlying148
  a57 := Tryz.isAgg148
  z57 := Tryz.sizeOf148
  v57 := Tryz.zeroValue148
  t63 := Tryz.underlying157
  a63 := Tryz.isAgg157
  z63 := Tryz.sizeOf157
  v63 := Tryz.zeroValue157
  t64 := Tryz.underlying158
  a64 := Tryz.isAgg158
  z64 := Tryz.sizeOf158
  v64 := Tryz.zeroValue158 }
end Go.Proofs
end

section
/- Walks: slices.Sort at int; snapshot.Versions. -/
namespace Go.Proofs
open Go.RowKit Go.Maps Go.Sort Go.Shelf

theorem YtgaffbdcpkbdhaaGreat.sortsV (m : Nat) : AnyZI.SortsIn Tryz.prog YtgaffbdcpkbdhaaGreat.sortedV_ren Fence.wide m :=
  ⟨fun blk off cap ss W hH hblk hsz => callsIn_wide.2 (AnyM.slices_Sort_int YtgaffbdcpkbdhaaGreat.sortV blk off cap ss W hH hblk hsz),
   fun p cap W => callsIn_wide.2 (AnyM.slices_Sort_int_none YtgaffbdcpkbdhaaGreat.sortV p cap W)⟩

theorem YtgaffbdcpkbdhaaGreat.sortInts_own (base : Nat) (v : Value) (n : Nat) (zs : List Int) (w : World) (hown : w.ownsRow base 3 1 v n (zs.map (Value.int .i64))) (hl : n < 4611686018427387904) :
    Calls Tryz.prog 37 #[v] w fun e w' => e = .returned (.tuple #[]) ∧ w'.ownsRow base 3 1 v n ((zs.mergeSort fun x y => decide (x ≤ y)).map (Value.int .i64)) ∧ w.grownBy w' v.ownBlock := by
  have hz : zs.length = n := by have := hown.1; simpa using this
  rcases hown.2 with ⟨rfl, h0⟩ | ⟨g, cap, cur, rfl, hg, hb, hn, hcap, hsz, ht⟩
  · refine (AnyM.slices_Sort_int_none YtgaffbdcpkbdhaaGreat.sortV none 0 w).mono ?_
    rintro e w' ⟨rfl, rfl⟩
    obtain rfl : zs = [] := List.eq_nil_of_length_eq_zero (by omega)
    exact ⟨rfl, by simpa using hown, ⟨rfl, rfl, rfl, Nat.le_refl _, fun _ _ _ => rfl⟩⟩
  · subst hz
    have hgl : g < w.heap.size := (Array.getElem?_eq_some_iff.1 hb).1
    refine (AnyM.slices_Sort_int YtgaffbdcpkbdhaaGreat.sortV g 0 cap zs w (holds_of_blockI hb (by rw [Nat.mul_one] at ht; exact ht)) hgl hl).mono ?_
    rintro e w' ⟨rfl, m, os, rfl⟩
    exact ⟨rfl, ownsRow_sortedI (by simp) hg hb hn hcap hsz, grownBy_sortedI _⟩

set_option maxHeartbeats 2000000 in
set_option maxRecDepth 100000 in
theorem YtgaffbdcpkbdhaaGreat.versions (b nn : Nat) (D0 : DataW Value) (R : Value → Option (DataW Value × List MemPlace)) (l : Int) (w : World) (hown : w.ownsMap Tryz.prog 3 R b nn D0) (hmax : Maps.size D0 ≤ maxLen) (hbytes : Maps.size D0 * 8 ≤ 140737488355328) :
    Calls Tryz.prog 18 #[.agg #[.map (some b), .int .i64 l]] w fun e w' => ∃ (v : Value) (ss : List Int), e = .returned v ∧ ss.Perm (intKeys D0) ∧
      w'.ownsRow w.heap.size 3 1 v ss.length ((ss.mergeSort (fun x y => decide (x ≤ y))).map encZ) ∧ (v = .slice none 0 0 ↔ ss = []) ∧ Below w.heap.size w w' := by
  refine (callsIn_wide (n := 6)).1 ?_
  have hbl := hown.lt
  obtain ⟨W0, hW0⟩ : ∃ W0, W0 = w.alloc (.cells #[.map (some b), .int .i64 l] 35) := ⟨_, rfl⟩
  have hb0 : Below w.heap.size w W0 := by rw [hW0]; exact (Below.refl _ w).alloc (Nat.le_refl _) _
  have hseq : SeqGives Fence.wide 2 Tryz.prog 57 #[.pointer (some ⟨W0.heap.size, 0, none⟩)] encZ (fun ss => ss.Perm (intKeys D0)) (Maps.size D0) (W0.alloc (.cells #[.map (some b)] 33)) :=
    AnyZI.keys_gives (ρ := YtgaffbdcpkbdhaaGreat.keysV_ren) { YtgaffbdcpkbdhaaGreat.keysV with } Fence.wide _ trivial rfl (by have := hb0.size; omega) W0.heap.size b nn D0 _ (by simp) (by simp) (by
      obtain ⟨es, clock, hb, Ft, hs, hD⟩ := hown
      exact ⟨es, clock, (Below.heap_alloc _ _ b (Nat.lt_of_lt_of_le hbl hb0.size)).trans ((hb0.block b hbl).trans hb), Ft, hs, hD⟩)
  have cK : ∀ mb W, CallsIn Fence.wide 5 Tryz.prog 39 #[.map mb] W fun e w' => e = .returned (.func (.func 57) #[] #[.pointer (some ⟨W.heap.size, 0, none⟩)]) ∧ w' = W.alloc (.cells #[.map mb] 33) := fun mb W => AnyZI.keys_in YtgaffbdcpkbdhaaGreat.keysV Fence.wide 5 trivial rfl mb W
  have cS := AnyZI.sorted_in YtgaffbdcpkbdhaaGreat.sortedV Fence.wide 5 trivial trivial trivial trivial rfl (by omega) (YtgaffbdcpkbdhaaGreat.sortsV _) (enters_of Tryz.func37 (by kernel_rfl) rfl) 57 #[.pointer (some ⟨W0.heap.size, 0, none⟩)] trivial (enters_of Tryz.func57 (by kernel_rfl) rfl) _ _ hmax hbytes _ hseq
  change CallsIn _ _ Tryz.prog 38 _ _ _ at cS
  have HW0 := Lib.hid hW0
  clear hW0
  have hfK : Fence.wide.fn 39 := trivial
  have hfS : Fence.wide.fn 38 := trivial
  refine callsIn_of_wp Tryz.func18 rfl trivial ?_ rfl
  simp only [Tryz.ntmps18, List.size_toArray, List.length_cons, List.length_nil, Nat.reduceAdd, Nat.reduceSub, Array.replicate_succ, Array.replicate_zero, List.push_toArray, List.append_toArray, List.nil_append, List.cons_append]
  gi_wp2_with (first
    | (gi_at_call 39; rw [← HW0.out]; refine (cK _ _).mono ?_; rintro e w' ⟨rfl, rfl⟩)
    | (gi_at_call 38; go_loud (refine cS.mono ?_); rintro e w' ⟨v, ss, rfl, hS, hrow, hnil, hb⟩))
  go_ret
  exact ⟨v, ss, rfl, hS, ownsRow_base_a hrow (by have := hb0.size; simp; omega), hnil, (hb0.trans ((Below.refl _ W0).alloc (Nat.le_refl _) _ |>.mono hb0.size)).trans (hb.mono (by have := hb0.size; simp; omega))⟩

theorem YtgaffbdcpkbdhaaGreat.versNums {P : Nat → Prop} {S : YtgaffbdcpkbdhaaGreat.Sch} {w : World} {b n : Nat} {D : DataW Value} {V : List YtgaffbdcpkbdhaaGreat.Ver} (hown : w.ownsMap Tryz.prog 3 YtgaffbdcpkbdhaaGreat.heldR b n D) (h4 : ∀ k, Maps.has D k = true → ∃ x ∈ V, k = YtgaffbdcpkbdhaaGreat.litI x.num) (h5 : YtgaffbdcpkbdhaaGreat.VersM P S w D V) (h6 : V.Pairwise (fun x y => x.num < y.num)) (ss : List Int) (hp : ss.Perm (intKeys D)) :
    (ss.mergeSort fun x y => decide (x ≤ y)) = V.map (·.num) := by
  obtain ⟨es, rfl, hpw, hkl⟩ := hown.entries YtgaffbdcpkbdhaaGreat.keyedI
  have hk : ∀ p ∈ es, ∃ x, p.1 = .int .i64 x := fun p hp => by
    have : Maps.has (.map es) p.1 = true := List.any_eq_true.2 ⟨p, hp, WideAt.sameKey_self (hkl p hp)⟩
    obtain ⟨x, _, e⟩ := h4 _ this
    exact ⟨x.num, e⟩
  have hnd : (V.map (·.num)).Nodup := List.pairwise_map.2 (h6.imp fun h => by omega)
  have hm : ∀ x, x ∈ V.map (·.num) ↔ Maps.has (.map es) (.int .i64 x) = true := fun x => by
    rw [show Maps.has (.map es) (.int .i64 x) = V.any fun y => y.num == x from YtgaffbdcpkbdhaaGreat.has_num h4 h5 x, List.any_eq_true, List.mem_map]
    constructor
    · rintro ⟨y, hy, rfl⟩; exact ⟨y, hy, by simp⟩
    · rintro ⟨y, hy, e⟩; exact ⟨y, hy, by simpa using e⟩
  have h := mergeSort_of_perm_i (hp.trans (perm_intKeys hpw hk hnd hm).symm)
  refine h.trans (List.mergeSort_of_pairwise (List.pairwise_map.2 (h6.imp fun h => decide_eq_true (by omega))))

end Go.Proofs
namespace Go.Proofs.YtgaffbdcpkbdhaaGreat
open Go.RowKit Go.Sort Go.ChangeMaps Go.WideShapes
theorem snVersions_any {P : Nat → Prop} {S : Sch} {m : Value} {l : Int} {V : List Ver} {w : World} (h : StM P S w m V) (hV : V.length ≤ 1000) :
    Calls Tryz.prog 18 #[.agg #[m, .int .i64 l]] w fun e w' => ∃ v, e = .returned v ∧ w'.ownsRow w.heap.size 3 1 v V.length ((V.map (·.num)).map (Value.int .i64)) ∧ Below w.heap.size w w' := by
  obtain ⟨b, D, rfl, -, hown, h3, h4, h5, h6⟩ := h
  refine (versions b _ D heldR l w hown (by rw [h3]; simp only [maxLen]; omega) (by rw [h3]; omega)).mono ?_
  rintro e w' ⟨v, ss, rfl, hp, hrow, -, hb⟩
  have e := versNums hown h4 h5 h6 ss hp
  have hl : ss.length = V.length := by
    have := congrArg List.length e
    rw [List.length_mergeSort, List.length_map] at this
    exact this
  rw [e, hl] at hrow
  exact ⟨v, rfl, hrow, hb⟩
end Go.Proofs.YtgaffbdcpkbdhaaGreat
end

section
/- Walk: snapshot.Collect. -/
namespace Go.Proofs.YtgaffbdcpkbdhaaGreat
open Go.RowKit Go.Sort Go.ChangeMaps Go.WideShapes

/-- The versions that a collection removes. -/
def goneB (l : Int) (x : Ver) : Bool := decide (x.pins = 0) && decide (x.num ≠ l)
def delAll (D : DataW Value) (zs : List Int) : DataW Value := zs.foldl (fun d x => d.del (litI x)) D
theorem delAll_snoc (D : DataW Value) (zs : List Int) (x : Int) : delAll D (zs ++ [x]) = (delAll D zs).del (litI x) := by unfold delAll; rw [List.foldl_append]; rfl
theorem num_inj : ∀ {V : List Ver}, V.Pairwise (fun x y => x.num < y.num) → ∀ {x y : Ver}, x ∈ V → y ∈ V → x.num = y.num → x = y
  | [], _, _, _, h, _, _ => by cases h
  | a :: t, hp, x, y, hx, hy, e => by
    obtain ⟨h1, h2⟩ := List.pairwise_cons.1 hp
    rcases List.mem_cons.1 hx with ex | hx1
    · rcases List.mem_cons.1 hy with ey | hy1
      · rw [ex, ey]
      · have := h1 y hy1; rw [ex] at e; omega
    · rcases List.mem_cons.1 hy with ey | hy1
      · have := h1 x hx1; rw [ey] at e; omega
      · exact num_inj h2 hx1 hy1 e
theorem sameI (x y : Int) : (litI x).sameKey (litI y) = decide (x = y) := by
  by_cases h : x = y
  · subst h
    rw [decide_eq_true rfl]
    exact WideAt.sameKey_self (isKeyI x)
  · rw [decide_eq_false h]
    exact Maps.sameKey_ne (fun e => h (litI_inj e))
theorem struck (left : Lit → Bool) (x n : Int) : (left (litI x) && !(litI x).sameKey (litI n)) = false ↔ left (litI x) = false ∨ x = n := by
  rw [sameI]
  by_cases h : x = n
  · simp [h]
  · simp [h]
theorem delAll_spec : ∀ (zs : List Int) (D : DataW Value), Maps.Tidy D → zs.Nodup → (∀ x ∈ zs, Maps.has D (litI x) = true) → Maps.Tidy (delAll D zs) ∧ Maps.size (delAll D zs) + zs.length = Maps.size D ∧ (∀ k, (∀ x ∈ zs, k ≠ litI x) → Maps.has (delAll D zs) k = Maps.has D k ∧ ∀ z, (delAll D zs).atKey k z = D.atKey k z) ∧ ∀ x ∈ zs, Maps.has (delAll D zs) (litI x) = false
  | [], D, ht, _, _ => ⟨ht, rfl, fun k _ => ⟨rfl, fun _ => rfl⟩, fun x hx => by cases hx⟩
  | a :: t, D, ht, hn, hh => by
    obtain ⟨hn1, hn2⟩ := List.nodup_cons.1 hn
    have hne : ∀ x ∈ t, litI x ≠ litI a := fun x hx e => hn1 (by rw [← litI_inj e]; exact hx)
    obtain ⟨h1, h2, h3, h4⟩ := delAll_spec t (D.del (litI a)) (ht.del _) hn2 fun x hx => by rw [Maps.has_del_other (hne x hx)]; exact hh x (List.mem_cons_of_mem _ hx)
    have hs := Maps.size_del (k := litI a) ht
    rw [hh a List.mem_cons_self, if_pos rfl] at hs
    refine ⟨h1, ?_, fun k hk => ?_, fun x hx => ?_⟩
    · show Maps.size (delAll (D.del (litI a)) t) + (t.length + 1) = _
      omega
    · obtain ⟨g1, g2⟩ := h3 k fun x hx => hk x (List.mem_cons_of_mem _ hx)
      have hka := hk a List.mem_cons_self
      exact ⟨g1.trans (Maps.has_del_other hka), fun z => (g2 z).trans (Maps.atKey_del_other hka z)⟩
    · rcases List.mem_cons.1 hx with rfl | hx
      · have := (h3 (litI x) fun y hy e => hne y hy e.symm).1
        exact this.trans Maps.has_del_same
      · exact h4 x hx
theorem parts_len (f : Ver → Bool) : ∀ V : List Ver, (V.filter f).length + (V.filter fun x => !f x).length = V.length
  | [] => rfl
  | a :: t => by
    have := parts_len f t
    cases h : f a
    · rw [List.filter_cons_of_neg (by rw [h]; decide), List.filter_cons_of_pos (by rw [h]; rfl), List.length_cons, List.length_cons]
      omega
    · rw [List.filter_cons_of_pos h, List.filter_cons_of_neg (by rw [h]; decide), List.length_cons, List.length_cons]
      omega
theorem gone_perm {V : List Ver} {l : Int} {zs : List Int} (h6 : V.Pairwise (fun x y => x.num < y.num)) (hnd : zs.Nodup) (hm : ∀ x, x ∈ zs ↔ ∃ y ∈ V, y.num = x ∧ goneB l y = true) : zs.Perm ((V.filter (goneB l)).map (·.num)) := by
  refine (List.perm_ext_iff_of_nodup hnd (List.pairwise_map.2 ((h6.filter _).imp fun h => by omega))).2 fun x => ?_
  rw [hm x, List.mem_map]
  constructor
  · rintro ⟨y, hy, e, h⟩; exact ⟨y, List.mem_filter.2 ⟨hy, h⟩, e⟩
  · rintro ⟨y, hy, e⟩; exact ⟨y, (List.mem_filter.1 hy).1, e, (List.mem_filter.1 hy).2⟩
theorem gone_sorted {V : List Ver} {l : Int} {zs : List Int} (h6 : V.Pairwise (fun x y => x.num < y.num)) (hp : zs.Perm ((V.filter (goneB l)).map (·.num))) : (zs.mergeSort fun x y => decide (x ≤ y)) = (V.filter (goneB l)).map (·.num) :=
  (mergeSort_of_perm_i hp).trans (List.mergeSort_of_pairwise (List.pairwise_map.2 ((h6.filter _).imp fun h => decide_eq_true (by omega))))
/-- The map behind the deletions. -/
theorem StM.collected {P : Nat → Prop} {S : Sch} {w' : World} {V : List Ver} {l : Int} {D : DataW Value} {zs : List Int} {bM n : Nat} (ht : Maps.Tidy D) (h3 : Maps.size D = V.length) (h4 : ∀ k, Maps.has D k = true → ∃ x ∈ V, k = litI x.num) (h5 : VersM P S w' D V) (h6 : V.Pairwise (fun x y => x.num < y.num)) (hnd : zs.Nodup) (hm : ∀ x, x ∈ zs ↔ ∃ y ∈ V, y.num = x ∧ goneB l y = true) (hP : P bM)
    (hown : w'.ownsMap Tryz.prog 3 heldR bM n (delAll D zs)) : StM P S w' (.map (some bM)) (V.filter fun x => !goneB l x) := by
  obtain ⟨_, g2, g3, g4⟩ := delAll_spec zs D ht hnd fun x hx => by
    obtain ⟨y, hy, rfl, _⟩ := (hm x).1 hx
    obtain ⟨_, d, g, _⟩ := h5 y hy
    exact Maps.has_true_of_atKey g
  have hlen := (gone_perm h6 hnd hm).length_eq
  rw [List.length_map] at hlen
  have hkeep : ∀ y ∈ V.filter (fun x => !goneB l x), ∀ x ∈ zs, litI y.num ≠ litI x := fun y hy x hx e => by
    obtain ⟨hy1, hy2⟩ := List.mem_filter.1 hy
    obtain ⟨z, hz, h7, h8⟩ := (hm x).1 hx
    have : y = z := num_inj h6 hy1 hz ((litI_inj e).trans h7.symm)
    rw [this, h8] at hy2
    cases hy2
  refine ⟨bM, _, rfl, hP, map_tight hown, ?_, fun k hk => ?_, fun y hy => ?_, h6.filter _⟩
  · have := parts_len (goneB l) V; omega
  · have hnk : ∀ x ∈ zs, k ≠ litI x := fun x hx e => by rw [e, g4 x hx] at hk; cases hk
    rw [(g3 k hnk).1] at hk
    obtain ⟨y, hy, e⟩ := h4 k hk
    refine ⟨y, List.mem_filter.2 ⟨hy, ?_⟩, e⟩
    cases hgy : goneB l y
    · rfl
    · exact absurd e (hnk y.num ((hm y.num).2 ⟨y, hy, rfl, hgy⟩))
  · obtain ⟨g0, d, g1, g2'⟩ := h5 y (List.mem_filter.1 hy).1
    exact ⟨g0, d, fun z => ((g3 _ (hkeep y hy)).2 z).trans (g1 z), g2'⟩
theorem SlIP.sl {P : Nat → Prop} {w : World} {A : Option Addr} {ks : List Int} (h : SlIP P w A ks) : SlI .i64 w.heap.size w A ks := fun hn => by
  obtain ⟨b, o, e, hb, _, hc⟩ := h (by intro h0; subst h0; exact hn rfl)
  exact ⟨b, o, e, hb, hc⟩
def CoPost (P : Nat → Prop) (S : Sch) (V : List Ver) (l : Int) (w : World) (e : Ending) (w' : World) : Prop :=
  ∃ m A C, e = .returned (.tuple #[.agg #[m, .int .i64 l], .slice A (V.filter (goneB l)).length C]) ∧ StM P S w' m (V.filter fun x => !goneB l x) ∧ SlIP (fun b => w.heap.size ≤ b) w' A ((V.filter (goneB l)).map (·.num)) ∧ Below w.heap.size w w'

set_option maxHeartbeats 8000000 in
set_option maxRecDepth 100000 in
theorem snCollect_any {P : Nat → Prop} {S : Sch} {m : Value} {l : Int} {V : List Ver} {w : World} (h : StM P S w m V) (hPn : ∀ b, w.heap.size ≤ b → P b) (hV : V.length ≤ 1000) :
    Calls Tryz.prog 16 #[.agg #[m, .int .i64 l]] w (CoPost P S V l w) := by
  obtain ⟨b, D, rfl, hPb, hown, h3, h4, h5, h6⟩ := h
  obtain ⟨W0, hW0⟩ : ∃ W0, W0 = (w.alloc (.cells #[.map (some b), .int .i64 l] 35)).alloc (.cells #[.map none, .int .i64 0] 35) := ⟨_, rfl⟩
  have hr1 : Row W0 w.heap.size 35 [.map (some b), .int .i64 l] := by rw [hW0]; exact (Row.new w 35 _).alloc _
  have hr2 : Row W0 (w.heap.size + 1) 35 [.map none, .int .i64 0] := by
    have h := Row.new (w.alloc (.cells #[.map (some b), .int .i64 l] 35)) 35 [.map none, .int .i64 0]
    rw [World.size_alloc] at h
    rw [hW0]; exact h
  have hx0 : Ext w W0 := by rw [hW0]; exact ((Ext.refl w).alloc _).alloc _
  have hbw : b < w.heap.size := hown.lt
  have hz0 : w.heap.size + 1 < W0.heap.size := hr2.lt
  have HR1 := Lib.hid hr1
  have HR2 := Lib.hid hr2
  have HX0 := Lib.hid hx0
  have HOW := Lib.hid (map_up hown hx0.below)
  have HTD := Lib.hid (hown.tidy keyedI)
  have HH3 := Lib.hid h3
  have HH4 := Lib.hid h4
  have HH5 : Hid (VersM P S w D V) := h5
  have HH6 := Lib.hid h6
  have HPN := Lib.hid hPn
  have HVL := Lib.hid hV
  have HKU : Hid (∀ U, Below W0.heap.size W0 U → U.cell? ⟨w.heap.size, 0, none⟩ = some (.map (some b)) ∧ U.cell? ⟨w.heap.size, 1, none⟩ = some (.int .i64 l)) := fun U hb => ⟨(HR1.out.up hb).cell 0, (HR1.out.up hb).cell 1⟩
  clear hown h3 h4 h5 h6 hPn hV hr1 hr2 hx0 hPb
  go_enter Tryz.func16, Tryz.ntmps16
  go_upto_region 1 with (fail)
  rw [← hW0]
  clear hW0
  go_cut [4] from 8 to 13 (fun r wx => ∃ (b4 bM : Nat), r = .pointer (some ⟨b4, 0, none⟩) ∧ Row wx b4 35 [.map (some bM), .int .i64 l] ∧ wx.ownsMap Tryz.prog 3 heldR bM (Maps.size D) D ∧ W0.heap.size ≤ b4 ∧ W0.heap.size ≤ bM ∧ bM ≠ b4 ∧ Below W0.heap.size W0 wx)
  case first =>
    refine wp_region_held_drew (S := (fun w' => w'.cell? ⟨w.heap.size, 0, none⟩ = some (.map (some b)) ∧ w'.cell? ⟨w.heap.size, 1, none⟩ = some (.int .i64 l))) (by kernel_rfl) (HKU.out W0 (Below.refl _ _)) (fun hHeld => ?_)
    obtain ⟨U0, hV0⟩ : ∃ V, V = W0.drew := ⟨_, rfl⟩
    have HV : Hid (Below W0.heap.size W0 U0) := by show Below _ _ _; rw [hV0]; exact ((Ext.refl W0).drew).below
    rw [← hV0]
    clear hV0
    have hHeld0 := HKU.out U0 HV.out
    refine takeOp (i := 0) (v := ?_) (some 8) rfl rfl (by kernel_rfl) (by kernel_rfl) (by kernel_rfl) (fun _ _ _ h => h) (Or.inl ⟨by rfl, ?_⟩) (by assumption) ?_
    rotate_left 1
    · (intro w0 hSw; (try dsimp only at hSw); go_simp; try (with_reducible rfl))
    try simp only [Act.put]
    try simp only [List.setIfInBounds_toArray]
    try simp only [List.set_cons_succ]
    try simp only [List.set_cons_zero]
    refine takeOp (i := 1) (v := ?_) (some 9) rfl rfl (by kernel_rfl) (by kernel_rfl) (by kernel_rfl) (fun _ _ _ h => h) (Or.inl ⟨by rfl, ?_⟩) (by assumption) ?_
    rotate_left 1
    · (intro w0 hSw; (try dsimp only at hSw); go_simp; try (with_reducible rfl))
    try simp only [Act.put]
    try simp only [List.setIfInBounds_toArray]
    try simp only [List.set_cons_succ]
    try simp only [List.set_cons_zero]
    refine takeOp (i := 3) (v := ?_) (some 11) rfl rfl (by kernel_rfl) (by kernel_rfl) (by kernel_rfl) (fun _ _ _ h => h) (Or.inl ⟨by rfl, ?_⟩) (by assumption) ?_
    rotate_left 1
    · (intro w0 hSw; (try dsimp only at hSw); go_simp; try (with_reducible rfl))
    try simp only [Act.put]
    try simp only [List.setIfInBounds_toArray]
    try simp only [List.set_cons_succ]
    try simp only [List.set_cons_zero]
    refine takeOp (i := 4) (v := ?_) (some 12) rfl rfl (by kernel_rfl) (by kernel_rfl) (by kernel_rfl) (fun _ _ _ h => h) (Or.inl ⟨by rfl, ?_⟩) (by assumption) ?_
    rotate_left 1
    · (intro w0 hSw; (try dsimp only at hSw); go_simp; try (with_reducible rfl))
    try simp only [Act.put]
    try simp only [List.setIfInBounds_toArray]
    try simp only [List.set_cons_succ]
    try simp only [List.set_cons_zero]
    refine wpAnyH_ready (rs := [2, 6]) (by kernel_rfl) (by simp) ?_
    refine (AllReadyH.cons rfl (fun K hK => ?_) (AllReadyH.cons rfl (fun K hK => ?_) AllReadyH.nil))
    · go_simp
      refine (snClone_some b _ D U0 (map_up HOW.out HV.out)).mono ?_
      rintro e U1 ⟨rfl, ho, hx⟩
      have HLC : Hid (W0.heap.size ≤ U0.heap.size) := HV.out.size
      have HO := Lib.hid ho
      have HV := Lib.hid (Below.then HV.out hx.below HV.out.size)
      clear ho hx
      go_wp2_with fail
      refine hK.out _ _ (HKU.out _ HV.out) (fun hHeld => ?_)
      clear hK K
      try simp only [Act.put]
      try simp only [List.setIfInBounds_toArray]
      try simp only [List.set_cons_succ]
      try simp only [List.set_cons_zero]
      refine takeOp (i := 5) (v := ?_) (some 13) rfl rfl (by kernel_rfl) (by kernel_rfl) (by kernel_rfl) (fun _ _ _ h => h) (Or.inl ⟨by rfl, ?_⟩) (by assumption) ?_
      rotate_left 1
      · (intro w0 hSw; (try dsimp only at hSw); go_simp; try (with_reducible rfl))
      try simp only [Act.put]
      try simp only [List.setIfInBounds_toArray]
      try simp only [List.set_cons_succ]
      try simp only [List.set_cons_zero]
      refine wpAnyH_ready (rs := [6]) (by kernel_rfl) (by simp) ?_
      refine (AllReadyH.cons rfl (fun K hK => ?_) AllReadyH.nil)
      go_simp
      obtain ⟨U2, hV⟩ : ∃ V', V' = U1.alloc (.cells #[.map none, .int .i64 0] 35) := ⟨_, rfl⟩
      rw [← hV]
      have hx : Ext U1 U2 := by rw [hV]; exact (Ext.refl U1).alloc _
      have HM : Hid (Row U2 U1.heap.size 35 [.map none, .int .i64 0]) := by show Row _ _ _ _; rw [hV]; exact Row.new U1 35 _
      have HLO : Hid (W0.heap.size ≤ U1.heap.size) := HV.out.size
      have HNE : Hid (U0.heap.size ≠ U1.heap.size) := by show _ ≠ _; have := HO.out.lt; omega
      have HO := Lib.hid (map_up HO.out hx.below)
      have HV := Lib.hid (Below.then HV.out hx.below HV.out.size)
      clear hx hV
      refine hK.out _ _ (HKU.out _ HV.out) (fun hHeld => ?_)
      clear hK K
      try simp only [Act.put]
      try simp only [List.setIfInBounds_toArray]
      try simp only [List.set_cons_succ]
      try simp only [List.set_cons_zero]
      refine wpAnyH_ready (rs := [7]) (by kernel_rfl) (by simp) ?_
      refine (AllReadyH.cons rfl (fun K hK => ?_) AllReadyH.nil)
      have m0 := HM.out.cell 0
      have m1 := HM.out.cell 1
      have m2 := HM.out.frozen 0
      have m3 := HM.out.frozen 1
      have m4 := HM.out.lt
      simp only [List.getElem?_cons_zero, List.getElem?_cons_succ] at m0 m1
      go_simp
      obtain ⟨U3, hV⟩ : ∃ V', V' = (U2.setCell ⟨U1.heap.size, 0, none⟩ (.map (some U0.heap.size))).setCell ⟨U1.heap.size, 1, none⟩ (.int .i64 l) := ⟨_, rfl⟩
      rw [← hV]
      have HM : Hid (Row U3 U1.heap.size 35 [.map (some U0.heap.size), .int .i64 l]) := by show Row _ _ _ _; rw [hV]; exact HM.out.set2 _ _
      have HO : Hid (U3.ownsMap Tryz.prog 3 heldR U0.heap.size (Maps.size D) D) := by show World.ownsMap _ _ _ _ _ _ _; rw [hV]; exact (HO.out.setCell (a := ⟨U1.heap.size, 0, none⟩) HNE.out _).setCell (a := ⟨U1.heap.size, 1, none⟩) HNE.out _
      have HV : Hid (Below W0.heap.size W0 U3) := by show Below _ _ _; rw [hV]; exact (HV.out.setCell (by show W0.heap.size ≤ U1.heap.size; exact HLO.out) _).setCell (by show W0.heap.size ≤ U1.heap.size; exact HLO.out) _
      clear hV m0 m1 m2 m3 m4
      refine hK.out _ _ (HKU.out _ HV.out) (fun hHeld => ?_)
      clear hK K
      try simp only [Act.put]
      try simp only [List.setIfInBounds_toArray]
      try simp only [List.set_cons_succ]
      try simp only [List.set_cons_zero]
      refine wpAnyH_done (by kernel_rfl) ?_ _
      go_wp2_with fail
      go_meet
      case rel => exact ⟨U1.heap.size, U0.heap.size, rfl, HM.out, HO.out, HLO.out, HLC.out, HNE.out, HV.out⟩
    · go_simp
      obtain ⟨U1, hV⟩ : ∃ V', V' = U0.alloc (.cells #[.map none, .int .i64 0] 35) := ⟨_, rfl⟩
      rw [← hV]
      have hx : Ext U0 U1 := by rw [hV]; exact (Ext.refl U0).alloc _
      have HM : Hid (Row U1 U0.heap.size 35 [.map none, .int .i64 0]) := by show Row _ _ _ _; rw [hV]; exact Row.new U0 35 _
      have HLO : Hid (W0.heap.size ≤ U0.heap.size) := HV.out.size
      have HV := Lib.hid (Below.then HV.out hx.below HV.out.size)
      clear hx hV
      refine hK.out _ _ (HKU.out _ HV.out) (fun hHeld => ?_)
      clear hK K
      try simp only [Act.put]
      try simp only [List.setIfInBounds_toArray]
      try simp only [List.set_cons_succ]
      try simp only [List.set_cons_zero]
      refine wpAnyH_ready (rs := [2]) (by kernel_rfl) (by simp) ?_
      refine (AllReadyH.cons rfl (fun K hK => ?_) AllReadyH.nil)
      go_simp
      refine (snClone_some b _ D U1 (map_up HOW.out HV.out)).mono ?_
      rintro e U2 ⟨rfl, ho, hx⟩
      have HNE : Hid (U1.heap.size ≠ U0.heap.size) := by show _ ≠ _; have := HM.out.lt; omega
      have HM := Lib.hid (HM.out.up hx.below)
      have HLC : Hid (W0.heap.size ≤ U1.heap.size) := HV.out.size
      have HO := Lib.hid ho
      have HV := Lib.hid (Below.then HV.out hx.below HV.out.size)
      clear ho hx
      go_wp2_with fail
      refine hK.out _ _ (HKU.out _ HV.out) (fun hHeld => ?_)
      clear hK K
      try simp only [Act.put]
      try simp only [List.setIfInBounds_toArray]
      try simp only [List.set_cons_succ]
      try simp only [List.set_cons_zero]
      refine takeOp (i := 5) (v := ?_) (some 13) rfl rfl (by kernel_rfl) (by kernel_rfl) (by kernel_rfl) (fun _ _ _ h => h) (Or.inl ⟨by rfl, ?_⟩) (by assumption) ?_
      rotate_left 1
      · (intro w0 hSw; (try dsimp only at hSw); go_simp; try (with_reducible rfl))
      try simp only [Act.put]
      try simp only [List.setIfInBounds_toArray]
      try simp only [List.set_cons_succ]
      try simp only [List.set_cons_zero]
      refine wpAnyH_ready (rs := [7]) (by kernel_rfl) (by simp) ?_
      refine (AllReadyH.cons rfl (fun K hK => ?_) AllReadyH.nil)
      have m0 := HM.out.cell 0
      have m1 := HM.out.cell 1
      have m2 := HM.out.frozen 0
      have m3 := HM.out.frozen 1
      have m4 := HM.out.lt
      simp only [List.getElem?_cons_zero, List.getElem?_cons_succ] at m0 m1
      go_simp
      obtain ⟨U3, hV⟩ : ∃ V', V' = (U2.setCell ⟨U0.heap.size, 0, none⟩ (.map (some U1.heap.size))).setCell ⟨U0.heap.size, 1, none⟩ (.int .i64 l) := ⟨_, rfl⟩
      rw [← hV]
      have HM : Hid (Row U3 U0.heap.size 35 [.map (some U1.heap.size), .int .i64 l]) := by show Row _ _ _ _; rw [hV]; exact HM.out.set2 _ _
      have HO : Hid (U3.ownsMap Tryz.prog 3 heldR U1.heap.size (Maps.size D) D) := by show World.ownsMap _ _ _ _ _ _ _; rw [hV]; exact (HO.out.setCell (a := ⟨U0.heap.size, 0, none⟩) HNE.out _).setCell (a := ⟨U0.heap.size, 1, none⟩) HNE.out _
      have HV : Hid (Below W0.heap.size W0 U3) := by show Below _ _ _; rw [hV]; exact (HV.out.setCell (by show W0.heap.size ≤ U0.heap.size; exact HLO.out) _).setCell (by show W0.heap.size ≤ U0.heap.size; exact HLO.out) _
      clear hV m0 m1 m2 m3 m4
      refine hK.out _ _ (HKU.out _ HV.out) (fun hHeld => ?_)
      clear hK K
      try simp only [Act.put]
      try simp only [List.setIfInBounds_toArray]
      try simp only [List.set_cons_succ]
      try simp only [List.set_cons_zero]
      refine wpAnyH_done (by kernel_rfl) ?_ _
      go_wp2_with fail
      go_meet
      case rel => exact ⟨U0.heap.size, U1.heap.size, rfl, HM.out, HO.out, HLO.out, HLC.out, HNE.out, HV.out⟩
  case rest =>
    obtain ⟨b4, bM, rfl, hr4, ho, hlo, hlc, hne, hbc⟩ := hcut
    have HR4 := Lib.hid hr4
    have HO4 := Lib.hid ho
    have HBC := Lib.hid hbc
    have HOC := Lib.hid (map_up HOW.out hbc)
    have HRW := Lib.hid (HR1.out.up hbc)
    have HRG := Lib.hid (HR2.out.up hbc)
    have k0 : wc.cell? ⟨w.heap.size, 0, none⟩ = some (.map (some b)) := HRW.out.cell 0
    have k1 := HRW.out.lt
    have hbMl := ho.lt
    have hb4l := hr4.lt
    have hcz := hbc.size
    clear hr4 ho hbc HOW HR1 HR2 HKU
    go_wp2_with (first
      | (at_range; refine wpList_range_own _ rfl _ 33 rfl 3 80 keyedI Tryz.underlying33 heldR b (Maps.size D) D rfl HOC.out ?_; intro w0 hrg0 hg0 hs0)
      | fail)
    go_frame
    obtain ⟨r, hr⟩ : ∃ r, r = wc.heap.size := ⟨_, rfl⟩
    have HRG0 : Hid (w0.ranges Tryz.prog 3 heldR b r (Maps.size D) D (Maps.has D) (Maps.size D)) := by rw [hr]; exact hrg0
    have hB00 : Below wc.heap.size wc w0 := (Below.refl _ wc).grown hg0 (Nat.le_refl _) (fun j hj => by cases hj)
    have HB0 := Lib.hid hB00
    have HO0 := Lib.hid (map_up HO4.out hB00)
    have HR40 := Lib.hid (HR4.out.up hB00)
    have HRW0 := Lib.hid (HRW.out.up hB00)
    have HRGG := Lib.hid (HRG.out.up hB00)
    have HS0 : Hid (w0.heap.size = r + 1) := by show _ = _; rw [hr]; exact hs0
    have hrl : W0.heap.size ≤ r := by omega
    have hbMr : bM < r := by omega
    have hb4r : b4 < r := by omega
    rw [← hr]
    clear hrg0 hg0 hs0 hr hB00 k0 k1 HR4 HO4 HRW HRG hbMl hb4l
    go_loopw [5] (fun v wx => ∃ (left : Lit → Bool) (cnt : Nat) (zs : List Int), wx.ownsRow (r + 1) 3 1 v zs.length (zs.map (Value.int .i64)) ∧ wx.ranges Tryz.prog 3 heldR b r (Maps.size D) D left cnt ∧ wx.ownsMap Tryz.prog 3 heldR bM (Maps.size D) (delAll D zs) ∧ zs.Nodup ∧ (zs.length + cnt ≤ V.length ∧ ∀ x, x ∈ zs ↔ left (litI x) = false ∧ ∃ y ∈ V, y.num = x ∧ goneB l y = true) ∧ Row wx b4 35 [.map (some bM), .int .i64 l] ∧ Row wx w.heap.size 35 [.map (some b), .int .i64 l] ∧ Row wx (w.heap.size + 1) 35 [.map none, .int .i64 0] ∧ Stay (fun x => x ≠ bM ∧ x < r) w0 wx ∧ wx.heap.size ≥ r + 1 ∧ Below w.heap.size w wx) (fun _ wx => wx.rangeLeft b r)
    case atStart =>
      refine ⟨_, _, [], own_nil _ _ _ _, HRG0.out, HO0.out, List.nodup_nil, ⟨by rw [HH3.out]; simp, fun x => ⟨fun h => by simp at h, fun ⟨h1, y, hy, h2, _⟩ => ?_⟩⟩, HR40.out, HRW0.out, HRGG.out, ⟨Nat.le_refl _, fun _ _ _ => rfl⟩, by rw [HS0.out]; exact Nat.le_refl _, Below.then HX0.out.below (Below.then HBC.out HB0.out HBC.out.size) HX0.out.size⟩
      rw [has_num HH4.out HH5.out x] at h1
      have := List.any_eq_false.1 h1 y hy
      simp [h2] at this
    case round =>
      obtain ⟨left, cnt, zs, hown, hrg, hom, hnd, ⟨hcn, hmem⟩, hr4, hrw, hrgg, hst, hsz, hb⟩ := hrel
      have HOWN := Lib.hid hown
      have HRGS := Lib.hid hrg
      have HOM := Lib.hid hom
      have HND := Lib.hid hnd
      have HMEM := Lib.hid hmem
      have HR4 := Lib.hid hr4
      have HRW := Lib.hid hrw
      have HRG2 := Lib.hid hrgg
      have HSTY := Lib.hid hst
      have HB := Lib.hid hb
      clear hown hom hnd hmem hr4 hrw hrgg hst hb
      go_wp2_with (first
        | (at_next; refine wpList_next_ranges _ rfl _ rfl 3 keyedI heldR (Value.int .i64) (fun v : Value => v) (fun key kl h => by obtain ⟨x, e, _⟩ := Maps.keyOf_int_inv Tryz.underlying3 h; exact ⟨x, e⟩) (fun v y _ => ⟨v, rfl⟩) b r (Maps.size D) D left cnt rfl HRGS.out ?_ ?_)
        | fail)
      · intro hc0 hl0
        have HM0 : Hid (∀ x, x ∈ zs ↔ ∃ y ∈ V, y.num = x ∧ goneB l y = true) := fun x => by rw [HMEM.out x, hl0]; simp
        have HPM := Lib.hid (gone_perm HH6.out HND.out HM0.out)
        have hbr : b ≠ r := by omega
        have HSRT := Lib.hid (sortInts_own (r + 1) u5 zs.length zs wr HOWN.out (by have := HVL.out; omega))
        clear hc0 hl0 hrg
        go_wp2_with fail
        refine HSRT.out.mono ?_
        rintro e w2 ⟨rfl, hown2, hg2⟩
        have hob : ∀ k, u5.ownBlock = some k → r + 1 ≤ k := fun k hk => own_base HOWN.out hk
        rw [gone_sorted HH6.out HPM.out] at hown2
        have hzl := HPM.out.length_eq
        rw [List.length_map] at hzl
        rw [hzl] at hown2
        have HOW2 := Lib.hid hown2
        have HR42 := Lib.hid (HR4.out.grown hg2 (fun e => by have := hob _ e.symm; omega))
        have HRG22 := Lib.hid (HRG2.out.grown hg2 (fun e => by have := hob _ e.symm; omega))
        have HOM2 := Lib.hid (HOM.out.kept hg2 (fun e => by have := hob _ e.symm; omega))
        have HB2 : Hid (Below w.heap.size w w2) := HB.out.grown hg2 HB.out.size (fun j hj => by have := hob _ hj; omega)
        have j0 : w2.cell? ⟨b4, 0, none⟩ = some (.map (some bM)) := HR42.out.cell 0
        have j1 : w2.cell? ⟨b4, 1, none⟩ = some (.int .i64 l) := HR42.out.cell 1
        have j2 := HR42.out.lt
        have j3 : w2.cell? ⟨w.heap.size + 1, 0, none⟩ = some (.map none) := HRG22.out.cell 0
        have j4 : w2.cell? ⟨w.heap.size + 1, 1, none⟩ = some (.int .i64 0) := HRG22.out.cell 1
        have j5 := HRG22.out.lt
        have j6 := HRG22.out.frozen 0
        have j7 := HRG22.out.frozen 1
        have HZL := Lib.hid hzl
        clear hown2 hg2 hzl HSRT
        go_wp2_with fail
        obtain ⟨W9, hW9⟩ : ∃ W9, W9 = (w2.setCell ⟨w.heap.size + 1, 0, none⟩ (.map (some bM))).setCell ⟨w.heap.size + 1, 1, none⟩ (.int .i64 l) := ⟨_, rfl⟩
        rw [← hW9]
        have q := HRG22.out.set2 (.map (some bM)) (.int .i64 l)
        rw [← hW9] at q
        have c0 := q.cell 0
        have c1 := q.cell 1
        have hb9 : Below w.heap.size w W9 := by
          rw [hW9]
          exact (HB2.out.setCell (by show w.heap.size ≤ w.heap.size + 1; omega) _).setCell (by show w.heap.size ≤ w.heap.size + 1; omega) _
        have hne9 : bM ≠ w.heap.size + 1 := by omega
        have ho9 : W9.ownsMap Tryz.prog 3 heldR bM (Maps.size D) (delAll D zs) := by
          rw [hW9]
          exact (HOM2.out.setCell (a := ⟨w.heap.size + 1, 0, none⟩) hne9 _).setCell (a := ⟨w.heap.size + 1, 1, none⟩) hne9 _
        have hst9 := StM.collected (l := l) HTD.out HH3.out HH4.out (HH5.out.keep (Stay.of hb9)) HH6.out HND.out HM0.out (HPN.out bM (by omega)) ho9
        have how9 : W9.ownsRow (r + 1) 3 1 u5 (V.filter (goneB l)).length (((V.filter (goneB l)).map (·.num)).map (Value.int .i64)) := by
          have hnb : u5.ownBlock ≠ some (w.heap.size + 1) := fun e => by have := hob _ e; omega
          rw [hW9]
          exact own_far (own_far HOW2.out (p := ⟨w.heap.size + 1, 0, none⟩) hnb _) (p := ⟨w.heap.size + 1, 1, none⟩) hnb _
        obtain ⟨A9, C9, rfl, -, -, -⟩ := own_cut how9 (by decide)
        have hsl : SlIP (fun b => w.heap.size ≤ b) W9 A9 ((V.filter (goneB l)).map (·.num)) := own_slip how9 (by rw [List.length_map]) fun b hb => by omega
        exact bodyPost_ret (v := .tuple #[.agg #[.map (some bM), .int .i64 l], .slice A9 (V.filter (goneB l)).length C9]) (by simp [results, Tryz.results16, go_sem, c0, c1]) rfl ⟨_, A9, C9, rfl, hst9, hsl, hb9⟩
      · intro x c kl y ps w1 cnt1 hkey hlk hv hat hrg1 hlt hg1 hs1 hen
        have hy : y = .held c := by
          unfold heldR at hv
          injection hv with hv
          injection hv with hv
          exact hv.symm
        obtain ⟨x', e1, e2, -⟩ := Maps.keyOf_int_inv Tryz.underlying3 hkey
        injection e1 with e0 e1
        subst e1
        subst e2
        have hat2 : ∀ z, D.atKey (litI x) z = .held c := fun z => (hat z).trans hy
        obtain ⟨ver, hver, ex⟩ := HH4.out (litI x) (Maps.has_true_of_atKey hat2)
        obtain rfl := litI_inj ex
        obtain ⟨hwf, d, hv1, hdb⟩ := HH5.out ver hver
        obtain ⟨bd, rfl⟩ := hdb.form
        have hcv : DataW.held c = .held (.agg #[.map (some bd), .int .i64 ver.pins]) := (hat2 .nil).symm.trans (hv1 .nil)
        injection hcv with hcv
        subst hcv
        have hbr : b ≠ r := by omega
        have hwr : w.heap.size < r := by omega
        have HOWN1 := Lib.hid (own_grown HOWN.out hg1 (fun k hk e => by have h1 := own_base HOWN.out hk; injection e with e; omega))
        have HOM1 := Lib.hid (HOM.out.kept hg1 (by intro e; injection e with e; omega))
        have HR41 := Lib.hid (HR4.out.grown hg1 (by intro e; injection e with e; omega))
        have HRW1 := Lib.hid (HRW.out.grown hg1 (by intro e; injection e with e; omega))
        have HRG1 := Lib.hid (HRG2.out.grown hg1 (by intro e; injection e with e; omega))
        have HSTY1 : Hid (Stay (fun x => x ≠ bM ∧ x < r) w0 w1) := HSTY.out.trans (Stay.grown hg1 (fun e => by have := e.2; omega))
        have HB1 : Hid (Below w.heap.size w w1) := HB.out.grown hg1 HB.out.size (fun j hj => by injection hj with hj; omega)
        have HRNG1 := Lib.hid hrg1
        have HLE := Lib.hid HRGS.out.left_eq
        have HVER := Lib.hid hver
        have HWF := Lib.hid hwf
        have HLK : Hid (left (litI ver.num) = true) := hlk
        have hlt2 := hlt
        have hz1 : w1.heap.size ≥ r + 1 := by rw [hs1]; exact hsz
        obtain ⟨W2, hW2⟩ : ∃ W2, W2 = w1.alloc (.cells #[.map (some bd), .int .i64 ver.pins] 80) := ⟨_, rfl⟩
        have hx2 : Ext w1 W2 := by rw [hW2]; exact (Ext.refl w1).alloc _
        have hr7 : Row W2 w1.heap.size 80 [.map (some bd), .int .i64 ver.pins] := by rw [hW2]; exact Row.new w1 80 _
        have j0 : W2.cell? ⟨w1.heap.size, 1, none⟩ = some (.int .i64 ver.pins) := hr7.cell 1
        have j1 : W2.cell? ⟨w.heap.size, 1, none⟩ = some (.int .i64 l) := (HRW1.out.up hx2.below).cell 1
        have j2 := hr7.lt
        have j3 := (HRW1.out.up hx2.below).lt
        have HX2 := Lib.hid hx2
        have HW2 := Lib.hid hW2
        clear hkey hlk hv hat hrg1 hg1 hs1 hy hat2 hver hv1 hdb hwf hrg hlt ex hx2 hr7 hW2 HOWN HOM HR4 HRW HRG2 HSTY HB HRGS
        go_upto_region 6 with (fail)
        rw [← HW2.out]
        clear hen HW2
        by_cases hgo : goneB l ver = true
        rotate_left
        · have HNG : Hid (goneB l ver = false) := by show _ = _; simpa using hgo
          have HNMEM : Hid (∀ x, x ∈ zs ↔ (left (litI x) && !(litI x).sameKey (litI ver.num)) = false ∧ ∃ y ∈ V, y.num = x ∧ goneB l y = true) := fun x => by
            rw [struck, HMEM.out x]
            constructor
            · rintro ⟨h1, h2⟩; exact ⟨.inl h1, h2⟩
            · rintro ⟨h1 | h1, y, hy, h2, h3⟩
              · exact ⟨h1, y, hy, h2, h3⟩
              · subst h1
                obtain rfl := num_inj HH6.out hy HVER.out h2
                rw [HNG.out] at h3
                cases h3
          clear hgo
          by_cases hp0 : ver.pins = 0
          · have n1 : (ver.pins == 0) = true := by rw [hp0]; rfl
            have n2 : (ver.num != l) = false := by
              have h := HNG.out
              unfold goneB at h
              rw [decide_eq_true hp0, Bool.true_and] at h
              have h := of_decide_eq_false h
              simpa using h
            clear hp0
            go_wp2_with fail
            go_roundw
            case rel => exact ⟨_, cnt1, zs, own_keep HOWN1.out HX2.out.below, ranges_up HRNG1.out HX2.out.below, map_up HOM1.out HX2.out.below, HND.out, ⟨by omega, HNMEM.out⟩, HR41.out.up HX2.out.below, HRW1.out.up HX2.out.below, HRG1.out.up HX2.out.below, HSTY1.out.trans (Stay.of HX2.out.below), Nat.le_trans hz1 HX2.out.size, Below.then HB1.out HX2.out.below HB1.out.size⟩
            case measure => rw [(ranges_up HRNG1.out HX2.out.below).left_eq, HLE.out]; exact hlt2
          · have n1 : (ver.pins == 0) = false := by simpa using hp0
            clear hp0
            go_wp2_with fail
            go_roundw
            case rel => exact ⟨_, cnt1, zs, own_keep HOWN1.out HX2.out.below, ranges_up HRNG1.out HX2.out.below, map_up HOM1.out HX2.out.below, HND.out, ⟨by omega, HNMEM.out⟩, HR41.out.up HX2.out.below, HRW1.out.up HX2.out.below, HRG1.out.up HX2.out.below, HSTY1.out.trans (Stay.of HX2.out.below), Nat.le_trans hz1 HX2.out.size, Below.then HB1.out HX2.out.below HB1.out.size⟩
            case measure => rw [(ranges_up HRNG1.out HX2.out.below).left_eq, HLE.out]; exact hlt2
        · have hgo2 := hgo
          unfold goneB at hgo2
          obtain ⟨hp0, hnl⟩ := Bool.and_eq_true_iff.1 hgo2
          have hp0 := of_decide_eq_true hp0
          have hnl := of_decide_eq_true hnl
          have n1 : (ver.pins == 0) = true := by rw [hp0]; rfl
          have n2 : (ver.num != l) = true := by simpa using hnl
          have HGO := Lib.hid hgo
          have HNIN : Hid (ver.num ∉ zs) := fun h => by
            have := ((HMEM.out _).1 h).1
            rw [HLK.out] at this
            cases this
          have HNMEM : Hid (∀ x, x ∈ zs ++ [ver.num] ↔ (left (litI x) && !(litI x).sameKey (litI ver.num)) = false ∧ ∃ y ∈ V, y.num = x ∧ goneB l y = true) := fun x => by
            rw [struck, List.mem_append, HMEM.out x, List.mem_singleton]
            constructor
            · rintro (⟨h1, h2⟩ | rfl)
              · exact ⟨.inl h1, h2⟩
              · exact ⟨.inr rfl, ver, HVER.out, rfl, HGO.out⟩
            · rintro ⟨h1 | h1, h2⟩
              · exact .inl ⟨h1, h2⟩
              · exact .inr h1
          clear hp0 hnl hgo hgo2
          obtain ⟨W3, hW3⟩ : ∃ W3, W3 = W2.alloc (.cells #[.int .i64 ver.num] 3) := ⟨_, rfl⟩
          have hx3 : Ext W2 W3 := by rw [hW3]; exact (Ext.refl W2).alloc _
          have hrn : Row W3 W2.heap.size 3 [.int .i64 ver.num] := by rw [hW3]; exact Row.new W2 3 _
          have HB13 := Lib.hid (Below.then HX2.out.below hx3.below HX2.out.size)
          have HOWN3 := Lib.hid (own_keep HOWN1.out HB13.out)
          have HRN := Lib.hid hrn
          have HW3 := Lib.hid hW3
          have HZL : Hid (zs.length ≤ 1000) := by show _ ≤ _; have := HVL.out; omega
          clear hx3 hrn hW3
          go_wp2_with (first
            | (at_builtin
               rw [← HW3.out]
               refine app1Int rfl (.tmp 31) (.tmp 33) rfl (r + 1) u5 zs.length (zs.map (Value.int .i64)) rfl HOWN3.out W2.heap.size ver.num rfl (HRN.out.cell 0) (by have := HZL.out; omega) (Nat.le_trans hz1 HB13.out.size) ?_
               intro v' w4 hown4 hg4
               have hob : ∀ k, u5.ownBlock = some k → r + 1 ≤ k := fun k hk => own_base HOWN3.out hk
               have HO4B : Hid (∀ k, v'.ownBlock = some k → r + 1 ≤ k) := fun k hk => own_base hown4 hk
               have HOW4 := Lib.hid hown4
               have HR44 := Lib.hid ((HR41.out.up HB13.out).grown hg4 (fun e => by have := hob _ e.symm; omega))
               have HRW4 := Lib.hid ((HRW1.out.up HB13.out).grown hg4 (fun e => by have := hob _ e.symm; omega))
               have HRG4 := Lib.hid ((HRG1.out.up HB13.out).grown hg4 (fun e => by have := hob _ e.symm; omega))
               have HOM4 := Lib.hid ((map_up HOM1.out HB13.out).kept hg4 (fun e => by have := hob _ e.symm; omega))
               have HRN4 := Lib.hid ((ranges_up HRNG1.out HB13.out).kept hg4 (fun e => by have := hob _ e.symm; omega) (fun e => by have := hob _ e.symm; omega))
               have HST4 : Hid (Stay (fun x => x ≠ bM ∧ x < r) w0 w4) := (HSTY1.out.trans (Stay.of HB13.out)).trans ⟨hg4.size, fun k hk hp => hg4.block k hk (fun e => by have h1 := hob _ e.symm; have h2 : k < r := hp.2; omega)⟩
               have HB4 : Hid (Below w.heap.size w w4) := (Below.then HB1.out HB13.out HB1.out.size).grown hg4 (Below.then HB1.out HB13.out HB1.out.size).size (fun j hj => by have := hob _ hj; omega)
               have hz4 : w4.heap.size ≥ r + 1 := by have := hg4.size; have := HB13.out.size; omega
               have j5 : w4.cell? ⟨b4, 0, none⟩ = some (.map (some bM)) := HR44.out.cell 0
               have j6 := HR44.out.lt
               clear hown4 hg4)
            | (at_delete
               refine wpList_delete_own _ rfl _ _ 33 3 rfl 80 keyedI Tryz.underlying33 heldR bM (Maps.size D) (delAll D zs) rfl HOM4.out _ (litI ver.num) rfl (keyI HWF.out) ?_
               intro w5 hown5 hturn5
               have HOM5 := Lib.hid hown5
               have HG5 := Lib.hid hturn5.grown
               clear hown5 hturn5)
            | fail)
          have HLEN : Hid ((zs ++ [ver.num]).length = zs.length + 1) := by show _ = _; rw [List.length_append]; rfl
          have HOWF : Hid (w5.ownsRow (r + 1) 3 1 v' (zs ++ [ver.num]).length ((zs ++ [ver.num]).map (Value.int .i64))) := by
            show World.ownsRow _ _ _ _ _ _ _
            rw [HLEN.out, List.map_append]
            exact own_grown HOW4.out HG5.out (fun k hk e => by have h1 := HO4B.out k hk; injection e with e; omega)
          have HRN5 := Lib.hid (HRN4.out.kept HG5.out (by intro e; injection e with e; omega) (by intro e; injection e with e; omega))
          have HDEL : Hid (w5.ownsMap Tryz.prog 3 heldR bM (Maps.size D) (delAll D (zs ++ [ver.num]))) := by show World.ownsMap _ _ _ _ _ _ _; rw [delAll_snoc]; exact HOM5.out
          have HNDF : Hid ((zs ++ [ver.num]).Nodup) := List.nodup_append.2 ⟨HND.out, by simp, fun a ha b hb => by simp at hb; subst hb; exact fun e => HNIN.out (e ▸ ha)⟩
          go_wp2_with fail
          go_roundw
          case rel => exact ⟨_, cnt1, zs ++ [ver.num], HOWF.out, HRN5.out, HDEL.out, HNDF.out, ⟨by rw [HLEN.out]; omega, HNMEM.out⟩, HR44.out.grown HG5.out (by intro e; injection e with e; omega), HRW4.out.grown HG5.out (by intro e; injection e with e; omega), HRG4.out.grown HG5.out (by intro e; injection e with e; omega), HST4.out.trans (Stay.grown HG5.out (fun e => e.1 rfl)), Nat.le_trans hz4 HG5.out.size, HB4.out.grown HG5.out HB4.out.size (fun j hj => by injection hj with hj; omega)⟩
          case measure => rw [HRN5.out.left_eq, HLE.out]; exact hlt2

end Go.Proofs.YtgaffbdcpkbdhaaGreat
end

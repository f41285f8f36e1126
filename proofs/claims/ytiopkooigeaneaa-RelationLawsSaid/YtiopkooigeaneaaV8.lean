/- Walks: relation.At, relation.Rows. -/
import Derived.Test.YtiopkooigeaneaaV7
namespace Go.Proofs.Ytiopkooigeaneaa
open Go.RowKit Go.Sort

set_option maxHeartbeats 400000 in
theorem rlAt_no (n : Int) (RA : Option Addr) (l RC : Nat) (i : Int) (w : World) (hl : l ≤ 1000000) (h : i < 0 ∨ (l : Int) ≤ i) :
    Calls Try.prog 27 #[.agg #[.int .i64 n, .slice RA l RC], .int .i64 i] w fun e w' => e = .returned (.tuple #[.slice none 0 0, .bool false]) ∧ Ext w w' := by
  rcases h with h | h
  · go_enter Try.func27, Try.ntmps27
    go_wp2
    go_ret2
    exact ⟨rfl, (Ext.refl w).alloc _⟩
  · have h0 : ¬ i < 0 := by omega
    go_enter Try.func27, Try.ntmps27
    go_wp2
    go_ret2
    exact ⟨rfl, (Ext.refl w).alloc _⟩

set_option maxHeartbeats 400000 in
theorem rlAt_ok (n : Int) (RA : Option Addr) (RC : Nat) (X : List RL.R) (i : Nat) (w : World) (hX : SlRs w.heap.size w RA X) (hXo : RsOk X) (hl : X.length ≤ 1000000) (hi : i < X.length) :
    Calls Try.prog 27 #[.agg #[.int .i64 n, .slice RA X.length RC], .int .i64 i] w fun e w' => ∃ v, e = .returned (.tuple #[v, .bool true]) ∧ w'.ownsRow w.heap.size 60 3 v X[i].length (rcells X[i]) ∧ Below w.heap.size w w' := by
  obtain ⟨b, o, A1, C1, rfl, hb, c1, -, -, s1⟩ := slRs_at hX hi
  have HC := Lib.hid (fun o => cloneRow_any A1 C1 X[i] (w.alloc o) (s1.alloc1 o) (hXo.at_ hi).1)
  clear hX hXo s1
  generalize X[i] = x at *
  go_enter Try.func27, Try.ntmps27
  go_wp2_with (go_at_call 62; refine (HC.out _).mono ?_; rintro e w' ⟨v, rfl, hown, hb⟩; have HO := Lib.hid (own_weaken hown (show w.heap.size ≤ _ by simp)); have HB := Lib.hid (Below.box hb (by simp)); clear hown hb)
  go_ret2
  exact ⟨v, rfl, HO.out, HB.out⟩

/-- A list of rows in a block that is known whole: the first k headers are laid. -/
def MadeRs (w : World) (g : Nat) (E : TypeId) (X : List RL.R) (k B : Nat) : Prop :=
  ∃ hs : List Value, Row w g E hs ∧ hs.length = X.length ∧ B ≤ g ∧ ∀ i (h : i < X.length), i < k → ∃ A' C', hs[i]? = some (.slice A' X[i].length C') ∧ X[i].length ≤ C' ∧ C' ≤ 9223372036854775807 ∧ SlR w.heap.size w A' X[i] ∧ (X[i] ≠ [] → ∀ ad, A' = some ad → ad.block ≠ g ∧ B ≤ ad.block ∧ ∀ o, w.frozen? ⟨ad.block, o, none⟩ = false)
theorem SlR.ltB {B : Nat} {w : World} {A : Option Addr} {y : RL.R} (h : SlR B w A y) : y ≠ [] → ∀ ad, A = some ad → ad.block < B := fun hy ad e => by
  obtain ⟨b, o, e', hb, _⟩ := h (fun h0 => by
    have := congrArg List.length h0
    rw [rcells_length] at this
    exact hy (List.eq_nil_of_length_eq_zero (by simp only [List.length_nil] at this; omega)))
  rw [e] at e'
  injection e' with e'
  rw [e']
  exact hb
theorem own_frozen {w : World} {base : Nat} {e : TypeId} {size : Nat} {A : Option Addr} {n C : Nat} {xs : List Value} (h : w.ownsRow base e size (.slice A n C) n xs) : ∀ ad, A = some ad → ∀ o, w.frozen? ⟨ad.block, o, none⟩ = false := fun ad e2 o => by
  subst e2
  rcases h.2 with ⟨h1, _⟩ | ⟨g, cap, cur, h1, _, hh, _⟩
  · injection h1 with h1; cases h1
  · injection h1 with h1
    injection h1 with h1
    subst h1
    simp [World.frozen?, hh]

section
variable {w w' : World} {g : Nat} {E : TypeId} {X : List RL.R} {k B : Nat}
theorem MadeRs.keep (h : MadeRs w g E X k B) (hb : Below w.heap.size w w') : MadeRs w' g E X k B := by
  obtain ⟨hs, h1, h2, h3, h4⟩ := h
  refine ⟨hs, h1.below hb h1.lt, h2, h3, fun i hi hk => ?_⟩
  obtain ⟨A', C', g1, g2, g3, g4, g5⟩ := h4 i hi hk
  exact ⟨A', C', g1, g2, g3, g4.upB hb, fun hy ad e => ⟨(g5 hy ad e).1, (g5 hy ad e).2.1, fun o => (hb.frozen (p := ⟨ad.block, o, none⟩) (g4.ltB hy ad e)).trans ((g5 hy ad e).2.2 o)⟩⟩
theorem MadeRs.lt (h : MadeRs w g E X k B) : g < w.heap.size := by obtain ⟨hs, h1, _⟩ := h; exact h1.lt
theorem MadeRs.cell (h : MadeRs w g E X k B) {i : Nat} (hi : i < X.length) : ∃ v, w.cell? ⟨g, i, none⟩ = some v := by
  obtain ⟨hs, h1, h2, _⟩ := h
  exact ⟨_, h1.cell_ (by omega)⟩
theorem MadeRs.frozen (h : MadeRs w g E X k B) (i : Nat) : w.frozen? ⟨g, i, none⟩ = false := by
  obtain ⟨hs, h1, _⟩ := h
  exact h1.frozen i
theorem SlR.far {w : World} {A : Option Addr} {x : RL.R} (h : SlR w.heap.size w A x) {p : Addr} (u : Value) (hne : x ≠ [] → ∀ ad, A = some ad → ad.block ≠ p.block) : SlR (w.setCell p u).heap.size (w.setCell p u) A x := by
  intro hn
  have hx : x ≠ [] := by intro e; subst e; exact hn rfl
  obtain ⟨b, o, e, hb, hc⟩ := h hn
  refine ⟨b, o, e, by simpa using hb, fun i u' hu => far_cell (q := ⟨b, o + i, none⟩) (fun e2 => hne hx _ e e2.symm) (hc i u' hu)⟩
theorem MadeRs.set (h : MadeRs w g E X k B) (hk : k < X.length) {A' : Option Addr} {C' : Nat} (hc : X[k].length ≤ C') (hm : C' ≤ 9223372036854775807) (hr : SlR w.heap.size w A' X[k]) (hne : X[k] ≠ [] → ∀ ad, A' = some ad → ad.block ≠ g ∧ B ≤ ad.block ∧ ∀ o, w.frozen? ⟨ad.block, o, none⟩ = false) :
    MadeRs (w.setCell ⟨g, k, none⟩ (.slice A' X[k].length C')) g E X (k + 1) B := by
  obtain ⟨hs, h1, h2, h3, h4⟩ := h
  refine ⟨hs.set k (.slice A' X[k].length C'), h1.set k _, by simpa using h2, h3, fun i hi hik => ?_⟩
  by_cases he : i = k
  · subst he
    exact ⟨A', C', by rw [List.getElem?_set_self (by omega)], hc, hm, hr.far _ (fun hy ad e => (hne hy ad e).1), fun hy ad e => ⟨(hne hy ad e).1, (hne hy ad e).2.1, fun o => by rw [World.frozen?_setCell]; exact (hne hy ad e).2.2 o⟩⟩
  · obtain ⟨A2, C2, g1, g2, g3, g4, g5⟩ := h4 i hi (by omega)
    exact ⟨A2, C2, by rw [List.getElem?_set_ne (fun e => he e.symm)]; exact g1, g2, g3, g4.far _ (fun hy ad e => (g5 hy ad e).1), fun hy ad e => ⟨(g5 hy ad e).1, (g5 hy ad e).2.1, fun o => by rw [World.frozen?_setCell]; exact (g5 hy ad e).2.2 o⟩⟩
theorem MadeRs.sl (h : MadeRs w g E X X.length B) : SlRs w.heap.size w (some ⟨g, 0, none⟩) X := fun _ => by
  obtain ⟨hs, h1, h2, h3, h4⟩ := h
  refine ⟨g, 0, rfl, h1.lt, fun i hi => ?_⟩
  obtain ⟨A', C', g1, g2, g3, g4, _⟩ := h4 i hi hi
  exact ⟨A', C', by rw [Nat.zero_add, h1.cell]; exact g1, g2, g3, g4⟩
end

theorem makeRows (n : Nat) (hn : n ≤ 1000000) (w : World) : (Instr.makeSlice 22 (.int .i64 (n : Int)) (.int .i64 (n : Int))).run Try.prog w = .ok (.slice (some ⟨w.heap.size, 0, none⟩) n n) (w.alloc (.cells (zerosA (.slice none 0 0) n) 24)) := by
  obtain ⟨i0, hi0, hz0, hz1, hz2⟩ := info_parts rowInfo
  have := run_make (P := Try.prog) w 22 24 i0 _ Try.underlying22 hi0 hz0 .i64 .i64 n n (by omega) (by omega) (by rw [hz2]; omega) (by omega)
  rw [this, hz1]
  simp only [Int.toNat_natCast]
  rw [zeros_made _ _ rfl]

theorem MadeRs.start (w : World) (E : TypeId) (X : List RL.R) : MadeRs (w.alloc (.cells (zerosA (.slice none 0 0) X.length) E)) w.heap.size E X 0 w.heap.size :=
  ⟨_, Row.zeros w E _ X.length, by simp, Nat.le_refl _, fun i _ h => absurd h (by omega)⟩

set_option maxHeartbeats 1000000 in
set_option maxRecDepth 100000 in
theorem rlRows_any (n : Int) (RA : Option Addr) (RC : Nat) (X : List RL.R) (w : World) (hX : SlRs w.heap.size w RA X) (hXo : RsOk X) (hl : X.length ≤ 1000000) :
    Calls Try.prog 30 #[.agg #[.int .i64 n, .slice RA X.length RC]] w fun e w' => ∃ g, e = .returned (.slice (some ⟨g, 0, none⟩) X.length X.length) ∧ MadeRs w' g 24 X X.length w.heap.size ∧ Below w.heap.size w w' := by
  have HX := Lib.hid hX
  have HXO := Lib.hid hXo
  have hmk := makeRows X.length hl
  clear hX hXo
  go_enter Try.func30, Try.ntmps30
  go_wp2
  clear hmk
  have HM0 := Lib.hid (MadeRs.start (w.alloc (.cells #[.int .i64 n, .slice RA X.length RC] 29)) 24 X)
  have c0 : ((w.alloc (.cells #[.int .i64 n, .slice RA X.length RC] 29)).alloc (.cells (zerosA (.slice none 0 0) X.length) 24)).cell? ⟨w.heap.size, 1, none⟩ = some (.slice RA X.length RC) := by go_simp
  have C0 := Lib.hid c0
  clear c0
  go_loopw [11] (fun i wr => ∃ k : Nat, k ≤ X.length ∧ i = .int .i64 k ∧ MadeRs wr (w.heap.size + 1) 24 X k (w.heap.size + 1) ∧ wr.cell? ⟨w.heap.size, 1, none⟩ = some (.slice RA X.length RC) ∧ Below w.heap.size w wr) (fun i _ => X.length - (intOf i).toNat)
  case atStart => exact ⟨0, Nat.zero_le _, rfl, by simpa using HM0.out, C0.out, ((Below.refl _ _).alloc (Nat.le_refl _) _).alloc (by simp) _⟩
  case round =>
    obtain ⟨k, hka, rfl, hM, hc0, hbel⟩ := hrel
    have HM := Lib.hid hM
    have HB := Lib.hid hbel
    have hlt := hM.lt
    clear hM HM0 C0
    by_cases h1 : k < X.length
    · obtain ⟨b, o, A1, C1, rfl, hb, c1, -, -, s1⟩ := slRs_at HX.out h1
      have d1 := (hbel.cell (p := ⟨b, o + k, none⟩) hb).trans c1
      have HC := Lib.hid (cloneRow_any A1 C1 X[k] wr ((s1.below hbel (Nat.le_refl _)).more hbel.size) (HXO.out.at_ h1).1)
      clear c1 s1 hbel
      have HXK := Lib.hid (show X[k] = X[k] from rfl)
      generalize hxl : X[k].length = xl at d1
      have HXL := Lib.hid hxl
      rw [hxl] at HC
      clear hxl
      go_wp2_with fail
      refine HC.out.mono ?_
      rintro e w1 ⟨v1, rfl, hown1, hb1⟩
      rw [← HXL.out] at hown1
      obtain ⟨-, A2, C2, rfl, hc2, hm2, hs2, hfr⟩ := SlR.of_own hown1
      have HM1 := Lib.hid (HM.out.keep hb1)
      obtain ⟨u, hu⟩ := HM1.out.cell h1
      have hfz := HM1.out.frozen k
      have hz1 := hb1.size
      have hc1 := (hb1.cell (p := ⟨w.heap.size, 1, none⟩) (show w.heap.size < wr.heap.size by omega)).trans hc0
      have HSET := Lib.hid (HM1.out.set h1 hc2 hm2 hs2 (fun _ ad e => ⟨by have := hfr ad e; omega, by have := hfr ad e; omega, own_frozen hown1 ad e⟩))
      have HB1 := Lib.hid ((Below.then HB.out hb1 (by omega)).setCell (p := ⟨w.heap.size + 1, k, none⟩) (show w.heap.size ≤ w.heap.size + 1 by omega) (.slice A2 X[k].length C2))
      rw [HXL.out] at HSET HB1 ⊢
      clear hown1 hb1 hs2 hfr d1 HC hc0
      go_wp2
      go_roundw
      case rel => exact ⟨k + 1, by omega, by go_num, HSET.out, far_cell (by simp) hc1, HB1.out⟩
      case measure => simp [intOf]; omega
    · obtain rfl : k = X.length := by omega
      go_wp2
      go_ret
      refine ⟨_, rfl, ?_, hbel⟩
      obtain ⟨hs, g1, g2, g3, g4⟩ := HM.out
      refine ⟨hs, g1, g2, by omega, fun i hi hk => ?_⟩
      obtain ⟨A', C', k1, k2, k3, k4, k5⟩ := g4 i hi hk
      exact ⟨A', C', k1, k2, k3, k4, fun hy ad e => ⟨(k5 hy ad e).1, by have := (k5 hy ad e).2.1; omega, (k5 hy ad e).2.2⟩⟩

end Go.Proofs.Ytiopkooigeaneaa

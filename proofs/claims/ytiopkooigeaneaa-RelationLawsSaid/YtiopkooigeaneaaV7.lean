/- Walks: the laws' own Rows; relation.New, Arity, Len, accepts; slices.Clone of rows; At, Rows. -/
import Derived.Test.YtiopkooigeaneaaV6
namespace Go.Proofs.Ytiopkooigeaneaa
open Go.RowKit Go.Sort

set_option maxHeartbeats 1000000 in
set_option maxRecDepth 100000 in
theorem l7Rows_any (XA : Option Addr) (XC : Nat) (X : List RL.R) (w : World) (hX : SlRs w.heap.size w XA X) (hXl : X.length ≤ 1000000) (hXo : RsOk X) :
    Calls Try.prog 26 #[.slice XA X.length XC] w fun e w' => ∃ v, e = .returned v ∧ OwnRs w' w.heap.size 39 v X ∧ Below w.heap.size w w' := by
  have HX := Lib.hid hX
  have HXO := Lib.hid hXo
  clear hX hXo
  go_enter Try.func26, Try.ntmps26
  go_wp2
  go_loopw [3, 8] (fun v i wr => ∃ k : Nat, k ≤ X.length ∧ i = .int .i64 k ∧ OwnRs wr w.heap.size 39 v (X.take k) ∧ Below w.heap.size w wr) (fun _ i _ => X.length - (intOf i).toNat)
  case atStart => exact ⟨0, Nat.zero_le _, rfl, OwnRs.nil _ _ _, Below.refl _ _⟩
  case round =>
    obtain ⟨k, hka, rfl, hown, hbel⟩ := hrel
    have HO := Lib.hid hown
    have HB := Lib.hid hbel
    have hzz := hbel.size
    have hlt := List.length_take_le k X
    clear hown
    by_cases h1 : k < X.length
    · obtain ⟨b, o, A1, C1, rfl, hb, c1, -, -, s1⟩ := slRs_at HX.out h1
      have d1 := (hbel.cell (p := ⟨b, o + k, none⟩) hb).trans c1
      have HT := Lib.hid (List.take_succ_eq_append_getElem h1)
      have HC := Lib.hid (l7Row_any A1 C1 X[k] wr ((s1.below hbel (Nat.le_refl _)).more hzz) (HXO.out.at_ h1).1)
      clear c1 s1 hbel
      generalize X[k] = x at d1 HT HC
      go_wp2_with fail
      refine HC.out.mono ?_
      rintro e w1 ⟨v1, rfl, hown1, hb1⟩
      obtain ⟨-, A2, C2, rfl, hc2, hm2, hs2, hfr⟩ := SlR.of_own hown1
      have HO1 := Lib.hid ((HO.out.keep hb1).keep ((Below.refl _ _).alloc (Nat.le_refl _) (.cells #[.slice A2 x.length C2] 39)))
      have HB1 := Lib.hid ((Below.then HB.out hb1 hzz).alloc (by have := hb1.size; omega) (.cells #[.slice A2 x.length C2] 39))
      have HS2 := Lib.hid (hs2.alloc1 (.cells #[.slice A2 x.length C2] 39))
      have hz1 := hb1.size
      have HFR := Lib.hid hfr
      have HLT := Lib.hid (fun g hg => (own_lt (HO.out).choose_spec.1 g hg))
      clear hown1 hb1 hs2 hfr d1 HC
      go_wp2_with (at_builtin; refine app1R7 rfl (.tmp 12) (.tmp 15) rfl w.heap.size u3 (X.take k) rfl HO1.out w1.heap.size A2 C2 x rfl (by go_simp) HS2.out hc2 hm2 (fun _ ad e e2 => by have h3 := HFR.out ad e; have h4 := HLT.out _ e2; omega) (by omega) (by simp; omega) ?_
                   intro v' w2 hown2 hg2
                   have HO2 := Lib.hid hown2
                   have HB2 := Lib.hid (HB1.out.grown hg2 (by simp; omega) HO1.out.base)
                   clear hown2 hg2)
      go_roundw
      case rel => exact ⟨k + 1, by omega, by go_num, by rw [HT.out]; exact HO2.out, HB2.out⟩
      case measure => simp [intOf]; omega
    · have HT := Lib.hid (List.take_of_length_le (show X.length ≤ k by omega))
      rw [HT.out] at HO
      go_wp2
      go_ret
      exact ⟨_, rfl, HO.out, hbel⟩

/-- relation.New. -/
theorem rlNew_bad (n : Int) (w : World) (h : n < 0 ∨ 32 < n) : Calls Try.prog 22 #[.int .i64 n] w fun e w' => e = .returned (.tuple #[.agg #[.int .i64 0, .slice none 0 0], .int .i64 3]) ∧ Ext w w' := by
  rcases h with h | h
  · go_enter Try.func22, Try.ntmps22
    go_wp2
    exact bodyPost_ret (v := .tuple #[.agg #[.int .i64 0, .slice none 0 0], .int .i64 3]) (by simp [results, Try.results22, go_sem]) rfl ⟨rfl, (Ext.refl w).alloc _⟩
  · have h' : ¬ n < 0 := by omega
    go_enter Try.func22, Try.ntmps22
    go_wp2
    exact bodyPost_ret (v := .tuple #[.agg #[.int .i64 0, .slice none 0 0], .int .i64 3]) (by simp [results, Try.results22, go_sem]) rfl ⟨rfl, (Ext.refl w).alloc _⟩
theorem rlNew_ok (n : Int) (w : World) (h0 : 0 ≤ n) (h1 : n ≤ 32) : Calls Try.prog 22 #[.int .i64 n] w fun e w' => e = .returned (.tuple #[.agg #[.int .i64 n, .slice none 0 0], .int .i64 0]) ∧ Ext w w' := by
  have h' : ¬ n < 0 := by omega
  have h2 : ¬ 32 < n := by omega
  go_enter Try.func22, Try.ntmps22
  go_wp2
  exact bodyPost_ret (v := .tuple #[.agg #[.int .i64 n, .slice none 0 0], .int .i64 0]) (by simp [results, Try.results22, go_sem]) rfl ⟨rfl, (Ext.refl w).alloc _⟩

theorem rlArity_any (n : Int) (A : Option Addr) (l C : Nat) (w : World) : Calls Try.prog 61 #[.agg #[.int .i64 n, .slice A l C]] w fun e w' => e = .returned (.int .i64 n) ∧ Ext w w' := by
  go_enter Try.func61, Try.ntmps61
  go_wp2
  go_ret
  exact ⟨rfl, (Ext.refl w).alloc _⟩
theorem rlLen_any (n : Int) (A : Option Addr) (l C : Nat) (w : World) : Calls Try.prog 31 #[.agg #[.int .i64 n, .slice A l C]] w fun e w' => e = .returned (.int .i64 l) ∧ Ext w w' := by
  go_enter Try.func31, Try.ntmps31
  go_wp2
  go_ret
  exact ⟨rfl, (Ext.refl w).alloc _⟩

set_option maxHeartbeats 400000 in
theorem rlAccepts_any (n : Int) (RA A : Option Addr) (l RC C : Nat) (x : RL.R) (w : World) (hx : SlR w.heap.size w A x) (hxo : ROk x) :
    Calls Try.prog 58 #[.agg #[.int .i64 n, .slice RA l RC], .slice A x.length C] w fun e w' => e = .returned (.int .i64 (wrongF n x)) ∧ Ext w w' := by
  have hxl := hxo.1
  by_cases hn : (x.length : Int) = n
  rotate_left
  · have hr : wrongF n x = 6 := by unfold wrongF; rw [if_pos hn]
    rw [hr]
    have hne : ((x.length : Int) != n) = true := by simpa using hn
    clear hr hn hx hxo
    go_enter Try.func58, Try.ntmps58
    go_wp2
    go_ret
    exact ⟨rfl, (Ext.refl w).alloc _⟩
  subst hn
  have HW : Hid (wrongF (x.length : Int) x = if x.all RL.validV = true then 0 else 4) := by show _ = _; unfold wrongF; rw [if_neg (by simp)]
  have HC := Lib.hid (fun o => rwValid_any A C x (w.alloc o) (hx.alloc1 o) hxl hxo.2)
  clear hx hxo
  generalize wrongF (x.length : Int) x = q at *
  cases hv : x.all RL.validV
  · rw [hv] at HC HW
    clear hv
    go_enter Try.func58, Try.ntmps58
    go_wp2_with (go_at_call 78; refine (HC.out _).mono ?_; rintro e w' ⟨rfl, hx⟩)
    go_ret
    exact ⟨ret_int HW.out.symm, ((Ext.refl w).alloc _).trans hx⟩
  · rw [hv] at HC HW
    clear hv
    go_enter Try.func58, Try.ntmps58
    go_wp2_with (go_at_call 78; refine (HC.out _).mono ?_; rintro e w' ⟨rfl, hx⟩)
    go_ret
    exact ⟨ret_int HW.out.symm, ((Ext.refl w).alloc _).trans hx⟩

/-- slices.Clone of a row. -/
theorem cloneRow_any (A : Option Addr) (C : Nat) (x : RL.R) (w : World) (hx : SlR w.heap.size w A x) (hxl : x.length ≤ 1000000) :
    Calls Try.prog 62 #[.slice A x.length C] w fun e w' => ∃ v, e = .returned v ∧ w'.ownsRow w.heap.size 60 3 v x.length (rcells x) ∧ Below w.heap.size w w' := by
  rcases A with _ | ad
  · have hz : x = [] := by
      cases x with
      | nil => rfl
      | cons z zs => obtain ⟨b, o, e, _⟩ := hx (by simp [rcells, vcells]); cases e
    subst hz
    exact Calls.mono (AnyE.slices_Clone_nil lCloneRow 0 C w) fun e w' ⟨h1, h2⟩ => ⟨_, h1, by subst h2; exact own_nil _ _ _ _, by subst h2; exact Below.refl _ _⟩
  · obtain ⟨i0, hi0, hz0, hz1, hz2⟩ := info_parts valInfo
    by_cases hx0 : x = []
    · subst hx0
      have hnil := fun w => Lib.run_eql_slice_nil (P := Try.prog) w 24 60 (some ad) 0 C 0 0 Try.underlying24
      have HO : Hid ((w.alloc (.cells #[] 60)).ownsRow w.heap.size 60 3 (.slice (some ⟨w.heap.size, 0, none⟩) 0 0) 0 []) := ⟨rfl, .inr ⟨w.heap.size, 0, #[], rfl, Nat.le_refl _, heap_alloc_new w _, Nat.le_refl _, by simp [maxLen], rfl, rfl⟩⟩
      clear hx hxl
      simp only [List.length_nil] at *
      go_enter Try.func62, Try.ntmps62
      go_wp2_with (at_builtin; refine wpList_append_own _ rfl (.tmp 5) (.tmp 6) 24 rfl w.heap.size 60 i0 _ 3 32 Try.underlying24 hi0 hz0 hz1 hz2 rfl (by decide) (.slice (some ⟨w.heap.size, 0, none⟩) 0 0) 0 [] rfl HO.out ad 0 C [] rfl (by simp) (fun j u hu => by simp at hu) (by simp) (by simp only [maxLen]; omega) (by omega) (by simp) ?_; intro v' w' hown' hg' hn'; have HO' := Lib.hid hown'; have HG := Lib.hid hg'; clear hown' hg' hn')
      go_ret
      refine ⟨_, rfl, HO'.out, ?_⟩
      refine ((Below.refl _ _).alloc (Nat.le_refl _) _).grown HG.out (by simp) ?_
      intro k hk
      simp [Value.ownBlock] at hk
      omega
    · obtain ⟨b, o, e, hb, hc⟩ := hx (by intro h0; have := congrArg List.length h0; rw [rcells_length] at this; exact hx0 (List.eq_nil_of_length_eq_zero (by simp only [List.length_nil] at this; omega)))
      injection e with e
      subst e
      have h := AnyE.slices_Clone lCloneRow i0 _ 3 32 hi0 hz0 hz1 hz2 rfl (by decide) Try.sizeOf60 b o x.length C (rcells x) w (rcells_length x) (by simp only [maxLen]; omega) (by omega) hc (rcells_one x)
      exact Calls.mono h fun e w' ⟨v, h1, h2, _, h4⟩ => ⟨v, h1, h2, h4⟩

/-- slices.Clone of a list of rows: the headers are copied, the rows stay where they lie. -/
theorem cloneRows_any (A : Option Addr) (C : Nat) (X : List RL.R) (w : World) (hX : SlRs w.heap.size w A X) (hXl : X.length ≤ 1000000) :
    Calls Try.prog 60 #[.slice A X.length C] w fun e w' => ∃ v, e = .returned v ∧ OwnRs w' w.heap.size 24 v X ∧ (∃ hs : List Value, w'.ownsRow w.heap.size 24 1 v X.length hs ∧ ∀ i (h : i < X.length), ∃ A' C', hs[i]? = some (.slice A' X[i].length C') ∧ X[i].length ≤ C' ∧ C' ≤ 9223372036854775807 ∧ SlR w.heap.size w A' X[i]) ∧ Below w.heap.size w w' := by
  have fin : ∀ (v : Value) (w' : World) (hs : List Value), w'.ownsRow w.heap.size 24 1 v X.length hs → (∀ i (h : i < X.length), ∃ A' C', hs[i]? = some (.slice A' X[i].length C') ∧ X[i].length ≤ C' ∧ C' ≤ 9223372036854775807 ∧ SlR w.heap.size w A' X[i]) → Below w.heap.size w w' → OwnRs w' w.heap.size 24 v X := fun v w' hs h1 h2 h3 => by
    refine ⟨hs, h1, fun i hi => ?_⟩
    obtain ⟨A', C', g1, g2, g3, g4⟩ := h2 i hi
    refine ⟨A', C', g1, g2, g3, g4.upB h3, fun hne ad e e2 => ?_⟩
    obtain ⟨b, o, e', hb, _⟩ := g4 (by
      intro h0
      have := congrArg List.length h0
      rw [rcells_length] at this
      exact hne (List.eq_nil_of_length_eq_zero (by simp only [List.length_nil] at this; omega)))
    rw [e] at e'
    injection e' with e'
    have := own_base h1 e2
    rw [e'] at this
    simp only at this
    omega
  rcases A with _ | ad
  · have hz : X = [] := by
      cases X with
      | nil => rfl
      | cons z zs => obtain ⟨b, o, e, _⟩ := hX (by simp); cases e
    subst hz
    exact Calls.mono (AnyE.slices_Clone_nil lCloneRows 0 C w) fun e w' ⟨h1, h2⟩ => ⟨_, h1, by subst h2; exact OwnRs.nil _ _ _, ⟨[], by subst h2; exact own_nil _ _ _ _, fun i h => absurd h (by simp)⟩, by subst h2; exact Below.refl _ _⟩
  · obtain ⟨i0, hi0, hz0, hz1, hz2⟩ := info_parts rowInfo
    by_cases hx0 : X = []
    · subst hx0
      have hnil := fun w => Lib.run_eql_slice_nil (P := Try.prog) w 22 24 (some ad) 0 C 0 0 Try.underlying22
      have HO : Hid ((w.alloc (.cells #[] 24)).ownsRow w.heap.size 24 1 (.slice (some ⟨w.heap.size, 0, none⟩) 0 0) 0 []) := ⟨rfl, .inr ⟨w.heap.size, 0, #[], rfl, Nat.le_refl _, heap_alloc_new w _, Nat.le_refl _, by simp [maxLen], rfl, rfl⟩⟩
      have FIN := Lib.hid fin
      clear hX hXl fin
      simp only [List.length_nil] at *
      go_enter Try.func60, Try.ntmps60
      go_wp2_with (at_builtin; refine wpList_append_own _ rfl (.tmp 5) (.tmp 6) 22 rfl w.heap.size 24 i0 _ 1 24 Try.underlying22 hi0 hz0 hz1 hz2 rfl (by decide) (.slice (some ⟨w.heap.size, 0, none⟩) 0 0) 0 [] rfl HO.out ad 0 C [] rfl (by simp) (fun j u hu => by simp at hu) (by simp) (by simp only [maxLen]; omega) (by omega) (by simp) ?_; intro v' w' hown' hg' hn'; have HO' := Lib.hid hown'; have HG := Lib.hid hg'; clear hown' hg' hn')
      go_ret
      have hbel : Below w.heap.size w w' := ((Below.refl _ _).alloc (Nat.le_refl _) _).grown HG.out (by simp) (fun k hk => by simp [Value.ownBlock] at hk; omega)
      exact ⟨_, rfl, FIN.out _ _ _ HO'.out (fun i h => absurd h (by simp)) hbel, ⟨_, HO'.out, fun i h => absurd h (by simp)⟩, hbel⟩
    · obtain ⟨b, o, e, hb, hc⟩ := hX hx0
      injection e with e
      subst e
      -- the headers
      have hh : ∃ hs : List Value, hs.length = X.length ∧ (∀ u ∈ hs, u.oneCell' = true) ∧ (∀ j u, hs[j]? = some u → w.cell? ⟨b, o + j, none⟩ = some u) ∧ ∀ i (h : i < X.length), ∃ A' C', hs[i]? = some (.slice A' X[i].length C') ∧ X[i].length ≤ C' ∧ C' ≤ 9223372036854775807 ∧ SlR w.heap.size w A' X[i] := by
        refine ⟨(List.range X.length).map fun i => (w.cell? ⟨b, o + i, none⟩).getD (.slice none 0 0), by simp, ?_, ?_, ?_⟩
        · intro u hu
          simp at hu
          obtain ⟨i, hi, rfl⟩ := hu
          obtain ⟨A', C', h1, _⟩ := hc i hi
          rw [h1]; rfl
        · intro j u hu
          obtain ⟨hj, e⟩ := List.getElem?_eq_some_iff.1 hu
          simp at hj
          simp at e
          obtain ⟨A', C', h1, _⟩ := hc j hj
          rw [h1] at e ⊢
          rw [← e]; rfl
        · intro i hi
          obtain ⟨A', C', h1, h2, h3, h4⟩ := hc i hi
          refine ⟨A', C', ?_, h2, h3, h4⟩
          rw [List.getElem?_eq_getElem (by simpa using hi)]
          simp [h1]
      obtain ⟨hs, hl, ho, hcell, hrow⟩ := hh
      have h := AnyE.slices_Clone lCloneRows i0 _ 1 24 hi0 hz0 hz1 hz2 rfl (by decide) Try.sizeOf24 b o X.length C hs w (by omega) (by simp only [maxLen]; omega) (by omega) hcell ho
      exact Calls.mono h fun e w' ⟨v, h1, h2, _, h4⟩ => ⟨v, h1, fin v w' hs h2 hrow h4, ⟨hs, h2, hrow⟩, h4⟩

end Go.Proofs.Ytiopkooigeaneaa

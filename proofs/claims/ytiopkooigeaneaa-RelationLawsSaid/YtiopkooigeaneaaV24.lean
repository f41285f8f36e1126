/- Walks: slices.Grow of the nil slice of rows, slices.Concat of two lists of rows, relation's Delete. -/
import Derived.Test.YtiopkooigeaneaaV23
import Derived.Lib.AppendZerosOnto
namespace Go.Proofs.Ytiopkooigeaneaa
open Go.RowKit Go.Sort

/-- append of n zero headers to the nil slice. -/
theorem appZ {w : World} {ops : Array Oper} {rest : List Oper} {o : Oper} {a : Act} {Q : Exit → Act → World → Prop} (hgd : o.guard = none) (s x : Operand)
    (ho : o.op = .call { callee := .builtin .append, args := #[s, x], argTypes := #[22, 3] })
    (n : Nat) (hs : a.eval s = .slice none 0 0) (hx : a.eval x = .int .i64 (n : Int)) (h0 : 0 < n) (hn : n ≤ 1000000)
    (h : ∀ G w', n ≤ G → G ≤ 9223372036854775807 → w'.ownsRow w.heap.size 24 1 (.slice (some ⟨w.heap.size, 0, none⟩) 0 G) 0 [] → Below w.heap.size w w' → wpList Try.prog ops Q rest (a.put o.dst (.slice (some ⟨w.heap.size, 0, none⟩) n G)) w') : wpList Try.prog ops Q (o :: rest) a w := by
  obtain ⟨i0, hi0, hz0, hz1, hz2⟩ := info_parts rowInfo
  have hold : (Builtin.firstCells i0.size 0 (.slice none 0 0)).run Try.prog w.drew = .ok ([] : List Value).toArray w.drew := run_firstCells_none w.drew i0.size 0 0 0
  have hrz := Lib.run_append_grow_zeros w 22 3 o.type 24 i0 _ .i64 .i64 Try.underlying22 Try.underlying3 hi0 hz0 none 0 0 [] hold n h0 (by rw [hz1]; omega) (by omega) (by omega) (by rw [hz2]; omega) (by rw [hz2]; exact growslice_fits (by omega) (by omega))
  rw [Nat.zero_add] at hrz
  have hGn : n ≤ grownCap w n 0 24 := grownCap_ge w _ _ _
  have hG63 : grownCap w n 0 24 ≤ maxLen := grownCap_le_maxLen w n 0 24 (by unfold maxLen; omega)
  refine wpList_plain hgd fun K hK => ?_
  unfold Oper.wp execOp
  simp only [ho, resolve, invoke, builtin, Sem.run_bind, Sem.run_pure, Result.andThen_ok, List.map_toArray, List.map_cons, List.map_nil, hs, hx, hrz]
  refine hK _ _ (h _ _ hGn (by unfold maxLen at hG63; omega) ?_ ((Below.refl _ w).drew.alloc (Nat.le_refl _) _))
  exact ⟨by simp, .inr ⟨w.heap.size, _, _, rfl, Nat.le_refl _, heap_alloc_new w.drew _, Nat.zero_le _, hG63, by simp [Builtin.zeroCells, Value.cells]; omega, by simp⟩⟩

set_option maxHeartbeats 1000000 in
set_option maxRecDepth 100000 in
theorem growRows_nil (n : Nat) (w : World) (hn : n ≤ 1000000) :
    Calls Try.prog 87 #[.slice none 0 0, .int .i64 n] w fun e w' => ∃ v, e = .returned v ∧ w'.ownsRow w.heap.size 24 1 v 0 [] ∧ Below w.heap.size w w' := by
  have h1 : ¬ ((n : Int) < 0) := by omega
  rcases Nat.eq_zero_or_pos n with h0 | h0
  · subst h0
    go_enter Try.func87, Try.ntmps87
    go_wp2
    go_ret
    exact ⟨_, rfl, own_nil _ _ _ _, Below.refl _ _⟩
  · go_enter Try.func87, Try.ntmps87
    go_wp2_with (at_builtin; refine appZ rfl (.tmp 20) (.tmp 21) rfl n rfl rfl h0 hn ?_; intro G w' hG1 hG2 hown hb; have HO := Lib.hid hown; have HB := Lib.hid hb; clear hown hb)
    go_ret
    exact ⟨_, rfl, HO.out, HB.out⟩

set_option maxHeartbeats 1000000 in
set_option maxRecDepth 100000 in
/-- slices.Concat of two lists of rows. -/
theorem concat2_any (P : Nat → Prop) (B cb : Nat) (A1 A2 : Option Addr) (c1 c2 : Nat) (X1 X2 : List RL.R) (w : World) (hrow : Row w cb 22 [.slice A1 X1.length c1, .slice A2 X2.length c2]) (h1 : SlRsP P B w A1 X1) (h2 : SlRsP P B w A2 X2) (hB : B ≤ w.heap.size) (hl1 : X1.length ≤ 100000) (hl2 : X2.length ≤ 100000) :
    Calls Try.prog 71 #[.slice (some ⟨cb, 0, none⟩) 2 2] w fun e w' => ∃ v hs, e = .returned v ∧ w'.ownsRow w.heap.size 24 1 v (X1.length + X2.length) hs ∧ Hdrs P B w' hs (X1 ++ X2) ∧ Below w.heap.size w w' := by
  have d0 : w.cell? ⟨cb, 0, none⟩ = some (.slice A1 X1.length c1) := hrow.cell 0
  have d1 : w.cell? ⟨cb, 1, none⟩ = some (.slice A2 X2.length c2) := hrow.cell 1
  have hzc := hrow.lt
  obtain ⟨h1s, hH1, hc1, hn1⟩ := h1.hdrs2
  obtain ⟨h2s, hH2, hc2, hn2⟩ := h2.hdrs2
  have HL1 := Lib.hid hH1.1
  have HL2 := Lib.hid hH2.1
  have HH1 := Lib.hid hH1
  have HH2 := Lib.hid hH2
  have HC1 := Lib.hid hc1
  have HC2 := Lib.hid hc2
  have HN1 := Lib.hid hn1
  have HN2 := Lib.hid hn2
  clear hH1 hH2 hc1 hc2 hn1 hn2 h1 h2 hrow
  generalize X1.length = l1 at *
  generalize X2.length = l2 at *
  go_enter Try.func71, Try.ntmps71
  go_wp2
  go_loopw [3, 11] (fun z i wr => wr = w ∧ (i = .int .i64 0 ∧ z = .int .i64 0 ∨ i = .int .i64 1 ∧ z = .int .i64 l1 ∨ i = .int .i64 2 ∧ z = .int .i64 ((l1 + l2 : Nat) : Int))) (fun _ i _ => 2 - (intOf i).toNat)
  case atStart => exact ⟨rfl, .inl ⟨rfl, rfl⟩⟩
  case round =>
    obtain ⟨hwr, hk⟩ := hrel
    obtain rfl := hwr.symm
    clear hwr
    rcases hk with ⟨rfl, rfl⟩ | ⟨rfl, rfl⟩ | ⟨rfl, rfl⟩
    · have g1 : ¬ (l1 : Int) < 0 := by omega
      go_wp2
      go_roundw
      case rel => simp
      case measure => simp [intOf]
    · have g1 : ¬ (l1 : Int) + (l2 : Int) < 0 := by omega
      go_wp2
      go_roundw
      case rel => simp
      case measure => simp [intOf]
    · have HGR := Lib.hid (growRows_nil (l1 + l2) w (by omega))
      go_wp2_with fail
      refine HGR.out.mono ?_
      rintro e w1 ⟨v1, rfl, hown1, hb1⟩
      have HO1 := Lib.hid hown1
      have HB1 := Lib.hid hb1
      clear hown1 hb1 HGR
      go_wp2
      go_loopw [6, 27] (fun v i wr => Below w.heap.size w wr ∧ (i = .int .i64 0 ∧ wr.ownsRow w.heap.size 24 1 v 0 [] ∨ i = .int .i64 1 ∧ wr.ownsRow w.heap.size 24 1 v l1 h1s ∨ i = .int .i64 2 ∧ wr.ownsRow w.heap.size 24 1 v (l1 + l2) (h1s ++ h2s))) (fun _ i _ => 2 - (intOf i).toNat)
      case atStart => exact ⟨HB1.out, .inl ⟨rfl, HO1.out⟩⟩
      case round =>
        obtain ⟨hbel, hk⟩ := hrel
        have HB := Lib.hid hbel
        have hzz := hbel.size
        have e0 := (hbel.cell (p := ⟨cb, 0, none⟩) hzc).trans d0
        have e1 := (hbel.cell (p := ⟨cb, 1, none⟩) hzc).trans d1
        clear hbel HB1 HO1
        rcases hk with ⟨rfl, ho⟩ | ⟨rfl, ho⟩ | ⟨rfl, ho⟩
        · have HO := Lib.hid ho
          clear ho
          go_wp2_with (at_builtin; refine appH rfl (.tmp 31) (.tmp 32) rfl w.heap.size u6 0 [] rfl HO.out A1 l1 c1 h1s HL1.out rfl (HC1.out _ (fun p hp _ => HB.out.cell (by omega))) HN1.out HH1.out.cells (by omega) hzz ?_
                       intro v3 w3 hown3 hg3 _
                       have HO3 := Lib.hid hown3
                       have HB3 := Lib.hid (Below.then HB.out (app_grown (B := w.heap.size) hg3 (fun g hk => own_base HO.out hk) hzz) (Nat.le_refl _))
                       clear hown3 hg3)
          go_roundw
          case rel =>
            refine ⟨HB3.out, .inr (.inl ⟨rfl, ?_⟩)⟩
            have h := HO3.out
            rw [Nat.zero_add, List.nil_append] at h
            exact h
          case measure => simp [intOf]
        · have HO := Lib.hid ho
          clear ho
          go_wp2_with (at_builtin; refine appH rfl (.tmp 31) (.tmp 32) rfl w.heap.size u6 l1 h1s rfl HO.out A2 l2 c2 h2s HL2.out rfl (HC2.out _ (fun p hp _ => HB.out.cell (by omega))) HN2.out HH2.out.cells (by omega) hzz ?_
                       intro v3 w3 hown3 hg3 _
                       have HO3 := Lib.hid hown3
                       have HB3 := Lib.hid (Below.then HB.out (app_grown (B := w.heap.size) hg3 (fun g hk => own_base HO.out hk) hzz) (Nat.le_refl _))
                       clear hown3 hg3)
          go_roundw
          case rel => exact ⟨HB3.out, .inr (.inr ⟨rfl, HO3.out⟩)⟩
          case measure => simp [intOf]
        · go_wp2
          go_ret
          exact ⟨_, _, rfl, ho, (HH1.out.keep (fun p hp _ => HB.out.cell (by omega))).append (HH2.out.keep (fun p hp _ => HB.out.cell (by omega))), HB.out⟩

/-- Without one place. -/
theorem del_at {X : List RL.R} (h : RL.SS X) {x : RL.R} (hm : x ∈ X) : RL.delF X x = X.take (RL.rank X x) ++ X.drop (RL.rank X x + 1) := by
  obtain ⟨hi, e⟩ := (RL.mem_iff_rank h x).1 hm
  have hsplit : X = X.take (RL.rank X x) ++ (X[RL.rank X x] :: X.drop (RL.rank X x + 1)) := by
    conv => lhs; rw [← List.take_append_drop (RL.rank X x) X, List.drop_eq_getElem_cons hi]
  unfold RL.delF
  conv => lhs; rw [hsplit]
  rw [List.filter_append, List.filter_cons_of_neg (by rw [e, RL.tot_cmpR.self]; simp)]
  congr 1
  · rw [List.filter_eq_self]
    intro y hy
    have := RL.lt_rank h x y hy
    simp
    omega
  · rw [List.filter_eq_self]
    intro y hy
    obtain ⟨j, hj, rfl⟩ := List.getElem_of_mem hy
    rw [List.getElem_drop]
    have hj' : RL.rank X x + 1 + j < X.length := by simp at hj; omega
    have := h.get (i := RL.rank X x) (j := RL.rank X x + 1 + j) (by omega) hj'
    rw [e, RL.tot_cmpR.sw X[RL.rank X x + 1 + j] x] at this
    simp
    omega
theorem del_none {X : List RL.R} {x : RL.R} (hm : x ∉ X) : RL.delF X x = X := by
  unfold RL.delF
  rw [List.filter_eq_self]
  intro y hy
  simp [RL.tot_cmpR.z]
  intro e; subst e; exact hm hy

end Go.Proofs.Ytiopkooigeaneaa

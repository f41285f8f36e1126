/- Walk: the law RelationSelects. -/
import Derived.Test.YtiopkooigeaneaaV22
import Derived.Test.YtiopkooigeaneaaM3
import Derived.Deep.DeepCutAuto
namespace Go.Proofs.Ytiopkooigeaneaa
open Go.RowKit Go.Sort

/-- append of many rows to an empty slice of the call's own, at a step of a region that draws its order. -/
theorem stepManyRow {w : World} {ops : Array Oper} {o : Oper} {a : Act} {K : Act → World → Prop} {Q : Exit → Act → World → Prop} {E : Prop} (hgd : o.guard = none) (s x : Operand)
    (ho : o.op = .call { callee := .builtin .append, args := #[s, x], argTypes := #[22, 22] })
    (base g : Nat) (hs : a.eval s = .slice (some ⟨g, 0, none⟩) 0 0) (hrow : Row w g 24 []) (hbg : base ≤ g)
    (A : Option Addr) (C : Nat) (Y : List RL.R) (hx : a.eval x = .slice A Y.length C) (hY : SlRs base w A Y)
    (hn : Y.length * 24 ≤ 140737488355328)
    (h : ∀ v' w', OwnRs w' base 24 v' Y → w.grownBy w' (some g) → (∀ k, v'.ownBlock = some k → k = g ∨ w.heap.size ≤ k) → K (a.put o.dst v') w') :
    if Region.wanted o (yielded ops a.tmps) = true then Oper.wp Try.prog o a w K Q else E := by
  have hw : Region.wanted o (yielded ops a.tmps) = true := by simp [Region.wanted, hgd]
  rw [if_pos hw]
  have hbase : base ≤ w.heap.size := Nat.le_trans hbg (Nat.le_of_lt hrow.lt)
  have h1 : w.ownsRow base 24 1 (.slice (some ⟨g, 0, none⟩) 0 0) 0 [] := ⟨rfl, .inr ⟨g, 0, #[], rfl, hbg, hrow, Nat.le_refl _, by simp [maxLen], rfl, rfl⟩⟩
  obtain ⟨i0, hi0, hz0, hz1, hz2⟩ := info_parts rowInfo
  obtain ⟨ns, hl, ho1, hcell, hnone, hrows⟩ := hY.hdrs
  rcases A with _ | ad
  · have hy := hnone rfl
    subst hy
    have hrun := run_append_none (P := Try.prog) w base 22 o.type 24 i0 1 Try.underlying22 hi0 _ 0 [] h1 C
    unfold Oper.wp execOp
    simp only [List.length_nil] at hx
    simp only [ho, resolve, invoke, builtin, Sem.run_bind, Sem.run_pure, Result.andThen_ok, List.map_toArray, List.map_cons, List.map_nil, hs, hx, hrun]
    exact h _ w ⟨[], h1, fun i h => absurd h (by simp)⟩ ⟨rfl, rfl, rfl, Nat.le_refl _, fun _ _ _ => rfl⟩ (fun k hk => by injection hk with hk; exact .inl hk.symm)
  · obtain ⟨v', w', hrun, k2, k3, _, k5⟩ := run_append_own_at (P := Try.prog) w base 22 o.type 24 i0 _ 1 24 Try.underlying22 hi0 hz0 hz1 hz2 rfl (by decide) _ 0 [] h1 ad Y.length C ns (by omega) (hcell ad rfl) ho1 (by simp only [maxLen]; omega) (by omega) hbase
    unfold Oper.wp execOp
    simp only [ho, resolve, invoke, builtin, Sem.run_bind, Sem.run_pure, Result.andThen_ok, List.map_toArray, List.map_cons, List.map_nil, hs, hx, hrun]
    have k := OwnRs.many (X := []) h1 (fun i h => absurd h (by simp)) hbase hrows k2 k3 k5
    rw [List.nil_append] at k
    refine h v' w' k k3 (fun q hq => ?_)
    rcases k5 with k5 | k5
    · rw [k5] at hq; injection hq with hq; exact .inl hq.symm
    · rw [k5] at hq; injection hq with hq; exact .inr (by omega)

/-- append of one row of one value, laid in two blocks of its own, at such a step. -/
theorem stepOneRow {w : World} {ops : Array Oper} {o : Oper} {a : Act} {K : Act → World → Prop} {Q : Exit → Act → World → Prop} {E : Prop} (hgd : o.guard = none) (s x : Operand)
    (ho : o.op = .call { callee := .builtin .append, args := #[s, x], argTypes := #[22, 22] })
    (base : Nat) (v : Value) (X : List RL.R) (hs : a.eval s = v) (hown : OwnRs w base 24 v X)
    (gt gv : Nat) (z : RL.V) (hx : a.eval x = .slice (some ⟨gt, 0, none⟩) 1 1) (hg : Row w gt 24 [.slice (some ⟨gv, 0, none⟩) 1 1]) (hv : Row w gv 60 (vcells z)) (hne : v.ownBlock ≠ some gv)
    (hn : (X.length + 1) * 24 ≤ 140737488355328) (hbase : base ≤ w.heap.size)
    (h : ∀ v' w', OwnRs w' base 24 v' (X ++ [[z]]) → w.grownBy w' v.ownBlock → K (a.put o.dst v') w') :
    if Region.wanted o (yielded ops a.tmps) = true then Oper.wp Try.prog o a w K Q else E := by
  obtain ⟨i0, hi0, hz0, hz1, hz2⟩ := info_parts rowInfo
  obtain ⟨hs0, h1, h2⟩ := hown
  refine step_append_lies w hgd s x 22 ho base 24 i0 _ 1 24 Try.underlying22 hi0 hz0 hz1 hz2 rfl (by decide) v X.length hs0 hs h1 ⟨gt, 0, none⟩ 1 1 [.slice (some ⟨gv, 0, none⟩) 1 1] hx rfl ?_ (by simp [Value.oneCell']) (by decide) (by simp only [maxLen]; omega) (by omega) hbase w.heap.size rfl ?_
  · intro j u hu
    cases j with
    | zero => simp at hu; subst hu; exact hg.cell 0
    | succ j => simp at hu
  · intro g cap w' k1 k2 k3 k4
    refine h _ w' ?_ k2
    have hsl : SlR w.heap.size w (some ⟨gv, 0, none⟩) [z] := by
      have := hv.sl
      have e : rcells [z] = vcells z := by simp [rcells]
      unfold SlR
      rw [e]
      exact this
    refine OwnRs.snoc (x := [z]) h1 h2 hsl (by simp) (by omega) (fun _ ad e => by injection e with e; rw [← e]; exact hne) k1 k2 ?_
    · intro g' hg'
      simp [Value.ownBlock] at hg'
      subst hg'
      rcases k3 with k3 | k3
      · exact .inl k3
      · exact .inr (by omega)

theorem Row.far_grown {w w' : World} {g b : Nat} {e : TypeId} {xs : List Value} (h : Row w g e xs) (hg : w.grownBy w' (some b)) (hne : g ≠ b) : Row w' g e xs := h.grown hg (fun e => hne (by injection e))

/-- wpAnyH_take with the slot written out. -/
theorem takeAt {P : Program} {md : Region.Mode} {ops : Array Oper} {Q : Exit → Act → World → Prop} {S : World → Prop} {i : Nat} {oi : Oper} {v : Value} {fuel : Nat} {listed : Array Bool} {a : Act} {w : World} (d : Option Tmp) (hi : ops[i]? = some oi) (hd : oi.dst = d)
    (hs : Region.noSelect ops = true) (hf : Region.free md ops listed i = true) (hr : (Region.ready md ops listed).contains i = true)
    (hQ : ∀ c a w, Q (.panic c) (a.put d v) w → Q (.panic c) a w) (hy : YieldsIf P ops S oi v a) (hS : S w)
    (h : wpAnyH P md ops Q S fuel (listed.setIfInBounds i true) (a.put d v) w) : wpAnyH P md ops Q S (fuel + 1) listed a w := by
  subst hd
  exact wpAnyH_take hi hs hf hr hQ hy hS h

/-- What the argument check of RelationSelects needs. -/
abbrev pickCells (col op oth : Int) (v : RL.V) : List Value := [.int .i64 col, .int .i64 op, .int .i64 oth, .int .i64 v.kind, .int .i64 v.int, .string v.str]

/-- What relation's Select answers, in one form. -/
def SelAll (n : Int) (X : List RL.R) (col op : Int) (v : RL.V) (n1 : Int) (Z : List RL.R) (q : Int) : Prop :=
  q = selErr n col op v ∧ ((selErr n col op v ≠ 0 ∧ n1 = 0 ∧ Z = []) ∨ (selErr n col op v = 0 ∧ n1 = n ∧ Z = selF X col op v))
theorem rlSelect_all (n : Int) (RA : Option Addr) (RC : Nat) (X : List RL.R) (col op : Int) (v : RL.V) (w : World) (hX : SlRs w.heap.size w RA X) (hXo : RsOk X) (hXl : X.length ≤ 60000) (hlen : ∀ x ∈ X, (x.length : Int) = n) (hval : ∀ x ∈ X, x.all RL.validV = true) (hvs : v.str.size ≤ 1000000000) :
    Calls Try.prog 33 #[.agg #[.int .i64 n, .slice RA X.length RC], .int .i64 col, .int .i64 op, vv v] w fun e w' => ∃ n1 Z A C q, e = .returned (.tuple #[.agg #[.int .i64 n1, .slice A Z.length C], .int .i64 q]) ∧ SelAll n X col op v n1 Z q ∧ SlRs w'.heap.size w' A Z ∧ Below w.heap.size w w' := by
  refine (rlSelect_any n RA RC X col op v w hX hXo hXl hlen hval hvs).mono ?_
  rintro e w' ⟨rv, rfl, h1, h2, hb⟩
  by_cases hq : selErr n col op v = 0
  · obtain ⟨A, C, rfl, -, -, hs⟩ := h2 hq
    exact ⟨n, _, A, C, _, rfl, ⟨rfl, .inr ⟨hq, rfl, rfl⟩⟩, hs.sl, hb⟩
  · rw [h1 hq]
    exact ⟨0, [], none, 0, _, rfl, ⟨rfl, .inl ⟨hq, rfl, rfl⟩⟩, SlRs.nil, hb⟩
/-- What relation's SelectSame answers, in one form. -/
def SameAll (n : Int) (X : List RL.R) (i j : Int) (n1 : Int) (Z : List RL.R) (q : Int) : Prop :=
  (inBoth n i j = false ∧ n1 = 0 ∧ Z = [] ∧ q = 3) ∨ (inBoth n i j = true ∧ n1 = n ∧ Z = sameF X i j ∧ q = 0)
theorem rlSelectSame_all (n : Int) (RA : Option Addr) (RC : Nat) (X : List RL.R) (i j : Int) (w : World) (hX : SlRs w.heap.size w RA X) (hXo : RsOk X) (hXl : X.length ≤ 60000) (hlen : ∀ x ∈ X, (x.length : Int) = n) :
    Calls Try.prog 35 #[.agg #[.int .i64 n, .slice RA X.length RC], .int .i64 i, .int .i64 j] w fun e w' => ∃ n1 Z A C q, e = .returned (.tuple #[.agg #[.int .i64 n1, .slice A Z.length C], .int .i64 q]) ∧ SameAll n X i j n1 Z q ∧ SlRs w'.heap.size w' A Z ∧ Below w.heap.size w w' := by
  refine (rlSelectSame_any n RA RC X i j w hX hXo hXl hlen).mono ?_
  rintro e w' ⟨h1, h2, hb⟩
  cases hq : inBoth n i j
  · rw [h1 hq]
    exact ⟨0, [], none, 0, _, rfl, .inl ⟨hq, rfl, rfl, rfl⟩, SlRs.nil, hb⟩
  · obtain ⟨rv, rfl, A, C, rfl, -, -, hs⟩ := h2 hq
    exact ⟨n, _, A, C, _, rfl, .inr ⟨hq, rfl, rfl, rfl⟩, hs, hb⟩
theorem selF_sub (X : List RL.R) (c op : Int) (v : RL.V) : ∀ x ∈ selF X c op v, x ∈ X := fun x hx => (List.mem_filter.1 hx).1
theorem sameF_sub (X : List RL.R) (i j : Int) : ∀ x ∈ sameF X i j, x ∈ X := fun x hx => (List.mem_filter.1 hx).1
theorem validR_val {n : Int} {X : List RL.R} : ∀ x ∈ RL.ofF (validR n X), x.all RL.validV = true := fun x hx => by
  have h := (List.mem_filter.1 ((RL.mem_ofF _ _).1 hx)).2
  simp only [decide_eq_true_eq] at h
  unfold wrongF at h
  split at h
  · simp at h
  · split at h
    · assumption
    · simp at h

set_option maxHeartbeats 4000000 in
set_option maxRecDepth 100000 in
theorem selects_walk (ar : Nat) (A : Option Addr) (C : Nat) (X : List RL.R) (col op oth : Int) (v : RL.V) (w : World) (har : ar < 256) (hX : SlRs w.heap.size w A X) (hbX : BigRs X) (hvs : v.str.size ≤ 9223372036854775807) :
    Calls Try.prog 8 #[.int .u8 ar, .slice A X.length C, .agg #[.int .i64 col, .int .i64 op, .int .i64 oth, .int .i64 v.kind, .int .i64 v.int, .string v.str]] w fun e w' => e = .returned (.bool true) ∧ Below w.heap.size w w' := by
  have HX := Lib.hid hX
  have HBX := Lib.hid hbX
  have hXl := hbX.1
  clear hX hbX
  have HP0 := Lib.hid (Row.new w 67 (pickCells col op oth v))
  have HB0 := Lib.hid ((Below.refl w.heap.size w).alloc (Nat.le_refl _) (.cells #[.int .i64 col, .int .i64 op, .int .i64 oth, .int .i64 v.kind, .int .i64 v.int, .string v.str] 67))
  have HX0 := Lib.hid (HX.out.alloc1 (.cells #[.int .i64 col, .int .i64 op, .int .i64 oth, .int .i64 v.kind, .int .i64 v.int, .string v.str] 67))
  have hz0 : (w.alloc (.cells #[.int .i64 col, .int .i64 op, .int .i64 oth, .int .i64 v.kind, .int .i64 v.int, .string v.str] 67)).heap.size = w.heap.size + 1 := by simp
  go_enter Try.func8, Try.ntmps8
  go_upto_region 2 with (go_at_call 12; refine (l7width_any ar _ har).mono ?_; rintro e w' ⟨rfl, hw⟩; obtain rfl := hw.symm)
  generalize w.alloc (.cells #[.int .i64 col, .int .i64 op, .int .i64 oth, .int .i64 v.kind, .int .i64 v.int, .string v.str] 67) = W0 at *
  have p0 : W0.cell? ⟨w.heap.size, 0, none⟩ = some (.int .i64 col) := HP0.out.cell 0
  have p1 : W0.cell? ⟨w.heap.size, 1, none⟩ = some (.int .i64 op) := HP0.out.cell 1
  have p2 : W0.cell? ⟨w.heap.size, 2, none⟩ = some (.int .i64 oth) := HP0.out.cell 2
  have p3 : W0.cell? ⟨w.heap.size, 3, none⟩ = some (.int .i64 v.kind) := HP0.out.cell 3
  have p4 : W0.cell? ⟨w.heap.size, 4, none⟩ = some (.int .i64 v.int) := HP0.out.cell 4
  have p5 : W0.cell? ⟨w.heap.size, 5, none⟩ = some (.string v.str) := HP0.out.cell 5
  have hzw : w.heap.size < W0.heap.size := by omega
  have HZ0 := Lib.hid hz0
  clear hz0
  have HKK : Hid (∀ W, Ext W0 W → W.cell? ⟨w.heap.size, 3, none⟩ = some (.int .i64 v.kind) ∧ W.cell? ⟨w.heap.size, 4, none⟩ = some (.int .i64 v.int) ∧ W.cell? ⟨w.heap.size, 5, none⟩ = some (.string v.str)) := fun W h => ⟨(h.cell hzw).trans p3, (h.cell hzw).trans p4, (h.cell hzw).trans p5⟩
  have HG : Hid (∀ W v2, OwnRs W W0.heap.size 24 v2 (X ++ [[v]]) → Calls Try.prog 13 #[v2] W fun e w' => e = .returned (.bool (greatF (X ++ [[v]]))) ∧ Ext W w') := fun W v2 ho => by
    obtain ⟨A3, C3, rfl, -, -, hs3⟩ := ho.sl
    exact l7Great_any A3 C3 (X ++ [[v]]) W hs3 (by simp; omega) (fun y hy => by
      rcases List.mem_append.1 hy with h | h
      · exact HBX.out.2 y h
      · simp at h; subst h; exact ⟨by simp, fun u hu => by simp at hu; subst hu; exact hvs⟩)
  go_cut [27] (fun g wx => g = .bool (greatF (X ++ [[v]])) ∧ Below W0.heap.size W0 wx)
  case first =>
    go_region_held3 (fun w' => w'.cell? ⟨w.heap.size, 3, none⟩ = some (.int .i64 v.kind) ∧ w'.cell? ⟨w.heap.size, 4, none⟩ = some (.int .i64 v.int) ∧ w'.cell? ⟨w.heap.size, 5, none⟩ = some (.string v.str)) (first | exact KEEP3 | exact KEEP2 | exact KEEP | exact HKK.out _ (((Ext.refl W0).alloc _).alloc _).alloc _ | exact HKK.out _ ((((Ext.refl W0).alloc _).alloc _).alloc _).drew | go_keep)
      (first
        | (go_at_call 13; refine (HG.out w3 v3 HO3.out).mono ?_; rintro e w4 ⟨rfl, hx4⟩
           have HB4 := Lib.hid (Below.then HB3.out hx4.below HB3.out.size)
           have KEEP3 : w4.cell? ⟨w.heap.size, 3, none⟩ = some (.int .i64 v.kind) ∧ w4.cell? ⟨w.heap.size, 4, none⟩ = some (.int .i64 v.int) ∧ w4.cell? ⟨w.heap.size, 5, none⟩ = some (.string v.str) := ⟨(HB4.out.cell (p := ⟨w.heap.size, 3, none⟩) hzw).trans p3, (HB4.out.cell (p := ⟨w.heap.size, 4, none⟩) hzw).trans p4, (HB4.out.cell (p := ⟨w.heap.size, 5, none⟩) hzw).trans p5⟩
           clear hx4)
        | (have _hx := HD2; clear _hx
           with_reducible change (if _ then Oper.wp _ _ _ w2 _ _ else _)
           refine stepOneRow (w := w2) rfl (.tmp 21) (.tmp 25) rfl W0.heap.size v2 X (by simp [Act.eval, Act.put]) (HO2.out.keep (Below.refl w2.heap.size w2)) (W0.heap.size + 2) (W0.heap.size + 1) v (by simp [Act.eval, Act.put]) (show Row w2 (W0.heap.size + 2) 24 [.slice (some ⟨W0.heap.size + 1, 0, none⟩) 1 1] from (by have h := HD2.out; (try simp only [World.size_alloc] at h); exact h)) (show Row w2 (W0.heap.size + 1) 60 (vcells v) from (by have h := HC2.out; (try simp only [World.size_alloc] at h); exact h)) (fun e => by rcases HA2.out _ e with h | h <;> omega) (by omega) (by (try simp only [World.size_alloc]); omega) ?_
           intro v3 w3 hown3 hg3
           have HO3 := Lib.hid hown3
           have hw3 : Below W0.heap.size W0 w3 := HB2.out.grown hg3 (by (try simp only [World.size_alloc]); omega) (fun k hk => HO2.out.base k hk)
           have HB3 := Lib.hid hw3
           have KEEP2 : w3.cell? ⟨w.heap.size, 3, none⟩ = some (.int .i64 v.kind) ∧ w3.cell? ⟨w.heap.size, 4, none⟩ = some (.int .i64 v.int) ∧ w3.cell? ⟨w.heap.size, 5, none⟩ = some (.string v.str) := ⟨(hw3.cell (p := ⟨w.heap.size, 3, none⟩) hzw).trans p3, (hw3.cell (p := ⟨w.heap.size, 4, none⟩) hzw).trans p4, (hw3.cell (p := ⟨w.heap.size, 5, none⟩) hzw).trans p5⟩
           clear hown3 hg3 hw3)
        | (have _hx := HD2; clear _hx
           with_reducible change (if _ then Oper.wp _ _ _ w2 _ _ else _)
           refine stepOneRow (w := w2) rfl (.tmp 21) (.tmp 25) rfl W0.heap.size v2 X (by simp [Act.eval, Act.put]) (HO2.out.keep (Below.refl w2.heap.size w2)) (W0.heap.size + 2) (W0.heap.size) v (by simp [Act.eval, Act.put]) (show Row w2 (W0.heap.size + 2) 24 [.slice (some ⟨W0.heap.size, 0, none⟩) 1 1] from (by have h := HD2.out; (try simp only [World.size_alloc] at h); exact h)) (show Row w2 (W0.heap.size) 60 (vcells v) from (by have h := HC2.out; (try simp only [World.size_alloc] at h); exact h)) (fun e => by rcases HA2.out _ e with h | h <;> omega) (by omega) (by (try simp only [World.size_alloc]); omega) ?_
           intro v3 w3 hown3 hg3
           have HO3 := Lib.hid hown3
           have hw3 : Below W0.heap.size W0 w3 := HB2.out.grown hg3 (by (try simp only [World.size_alloc]); omega) (fun k hk => HO2.out.base k hk)
           have HB3 := Lib.hid hw3
           have KEEP2 : w3.cell? ⟨w.heap.size, 3, none⟩ = some (.int .i64 v.kind) ∧ w3.cell? ⟨w.heap.size, 4, none⟩ = some (.int .i64 v.int) ∧ w3.cell? ⟨w.heap.size, 5, none⟩ = some (.string v.str) := ⟨(hw3.cell (p := ⟨w.heap.size, 3, none⟩) hzw).trans p3, (hw3.cell (p := ⟨w.heap.size, 4, none⟩) hzw).trans p4, (hw3.cell (p := ⟨w.heap.size, 5, none⟩) hzw).trans p5⟩
           clear hown3 hg3 hw3)
        | (have _hx := HD2; clear _hx
           with_reducible change (if _ then Oper.wp _ _ _ w2 _ _ else _)
           refine stepOneRow (w := w2) rfl (.tmp 21) (.tmp 25) rfl W0.heap.size v2 X (by simp [Act.eval, Act.put]) (HO2.out.keep (Below.refl w2.heap.size w2)) (W0.heap.size + 1) (W0.heap.size) v (by simp [Act.eval, Act.put]) (show Row w2 (W0.heap.size + 1) 24 [.slice (some ⟨W0.heap.size, 0, none⟩) 1 1] from (by have h := HD2.out; (try simp only [World.size_alloc] at h); exact h)) (show Row w2 (W0.heap.size) 60 (vcells v) from (by have h := HC2.out; (try simp only [World.size_alloc] at h); exact h)) (fun e => by rcases HA2.out _ e with h | h <;> omega) (by omega) (by (try simp only [World.size_alloc]); omega) ?_
           intro v3 w3 hown3 hg3
           have HO3 := Lib.hid hown3
           have hw3 : Below W0.heap.size W0 w3 := HB2.out.grown hg3 (by (try simp only [World.size_alloc]); omega) (fun k hk => HO2.out.base k hk)
           have HB3 := Lib.hid hw3
           have KEEP2 : w3.cell? ⟨w.heap.size, 3, none⟩ = some (.int .i64 v.kind) ∧ w3.cell? ⟨w.heap.size, 4, none⟩ = some (.int .i64 v.int) ∧ w3.cell? ⟨w.heap.size, 5, none⟩ = some (.string v.str) := ⟨(hw3.cell (p := ⟨w.heap.size, 3, none⟩) hzw).trans p3, (hw3.cell (p := ⟨w.heap.size, 4, none⟩) hzw).trans p4, (hw3.cell (p := ⟨w.heap.size, 5, none⟩) hzw).trans p5⟩
           clear hown3 hg3 hw3)
        | (have _hx := HC2; clear _hx
           with_reducible change (if _ then Oper.wp _ _ _ (w2.alloc (.cells #[.slice (some ⟨W0.heap.size + 1, 0, none⟩) 1 1] 24)) _ _ else _)
           refine stepOneRow (w := (w2.alloc (.cells #[.slice (some ⟨W0.heap.size + 1, 0, none⟩) 1 1] 24))) rfl (.tmp 21) (.tmp 25) rfl W0.heap.size v2 X (by simp [Act.eval, Act.put]) (HO2.out.keep ((Below.refl w2.heap.size w2).alloc (by simp; try omega) _)) (w2.heap.size) (W0.heap.size + 1) v (by simp [Act.eval, Act.put]) (show Row (w2.alloc (.cells #[.slice (some ⟨W0.heap.size + 1, 0, none⟩) 1 1] 24)) (w2.heap.size) 24 [.slice (some ⟨W0.heap.size + 1, 0, none⟩) 1 1] from (by have h := (Row.new w2 24 [.slice (some ⟨W0.heap.size + 1, 0, none⟩) 1 1]); (try simp only [World.size_alloc] at h); exact h)) (show Row (w2.alloc (.cells #[.slice (some ⟨W0.heap.size + 1, 0, none⟩) 1 1] 24)) (W0.heap.size + 1) 60 (vcells v) from (by have h := (HC2.out.alloc (.cells #[.slice (some ⟨W0.heap.size + 1, 0, none⟩) 1 1] 24)); (try simp only [World.size_alloc] at h); exact h)) (fun e => by rcases HA2.out _ e with h | h <;> omega) (by omega) (by (try simp only [World.size_alloc]); omega) ?_
           intro v3 w3 hown3 hg3
           have HO3 := Lib.hid hown3
           have hw3 : Below W0.heap.size W0 w3 := (HB2.out.alloc (by (try simp only [World.size_alloc]); omega) _).grown hg3 (by (try simp only [World.size_alloc]); omega) (fun k hk => HO2.out.base k hk)
           have HB3 := Lib.hid hw3
           have KEEP2 : w3.cell? ⟨w.heap.size, 3, none⟩ = some (.int .i64 v.kind) ∧ w3.cell? ⟨w.heap.size, 4, none⟩ = some (.int .i64 v.int) ∧ w3.cell? ⟨w.heap.size, 5, none⟩ = some (.string v.str) := ⟨(hw3.cell (p := ⟨w.heap.size, 3, none⟩) hzw).trans p3, (hw3.cell (p := ⟨w.heap.size, 4, none⟩) hzw).trans p4, (hw3.cell (p := ⟨w.heap.size, 5, none⟩) hzw).trans p5⟩
           clear hown3 hg3 hw3)
        | (have _hx := HC2; clear _hx
           with_reducible change (if _ then Oper.wp _ _ _ (w2.alloc (.cells #[.slice (some ⟨W0.heap.size, 0, none⟩) 1 1] 24)) _ _ else _)
           refine stepOneRow (w := (w2.alloc (.cells #[.slice (some ⟨W0.heap.size, 0, none⟩) 1 1] 24))) rfl (.tmp 21) (.tmp 25) rfl W0.heap.size v2 X (by simp [Act.eval, Act.put]) (HO2.out.keep ((Below.refl w2.heap.size w2).alloc (by simp; try omega) _)) (w2.heap.size) (W0.heap.size) v (by simp [Act.eval, Act.put]) (show Row (w2.alloc (.cells #[.slice (some ⟨W0.heap.size, 0, none⟩) 1 1] 24)) (w2.heap.size) 24 [.slice (some ⟨W0.heap.size, 0, none⟩) 1 1] from (by have h := (Row.new w2 24 [.slice (some ⟨W0.heap.size, 0, none⟩) 1 1]); (try simp only [World.size_alloc] at h); exact h)) (show Row (w2.alloc (.cells #[.slice (some ⟨W0.heap.size, 0, none⟩) 1 1] 24)) (W0.heap.size) 60 (vcells v) from (by have h := (HC2.out.alloc (.cells #[.slice (some ⟨W0.heap.size, 0, none⟩) 1 1] 24)); (try simp only [World.size_alloc] at h); exact h)) (fun e => by rcases HA2.out _ e with h | h <;> omega) (by omega) (by (try simp only [World.size_alloc]); omega) ?_
           intro v3 w3 hown3 hg3
           have HO3 := Lib.hid hown3
           have hw3 : Below W0.heap.size W0 w3 := (HB2.out.alloc (by (try simp only [World.size_alloc]); omega) _).grown hg3 (by (try simp only [World.size_alloc]); omega) (fun k hk => HO2.out.base k hk)
           have HB3 := Lib.hid hw3
           have KEEP2 : w3.cell? ⟨w.heap.size, 3, none⟩ = some (.int .i64 v.kind) ∧ w3.cell? ⟨w.heap.size, 4, none⟩ = some (.int .i64 v.int) ∧ w3.cell? ⟨w.heap.size, 5, none⟩ = some (.string v.str) := ⟨(hw3.cell (p := ⟨w.heap.size, 3, none⟩) hzw).trans p3, (hw3.cell (p := ⟨w.heap.size, 4, none⟩) hzw).trans p4, (hw3.cell (p := ⟨w.heap.size, 5, none⟩) hzw).trans p5⟩
           clear hown3 hg3 hw3)
        | (have _hx := HO2; clear _hx
           with_reducible change (if _ then Oper.wp _ _ _ ((w2.alloc (.cells #[.int .i64 v.kind, .int .i64 v.int, .string v.str] 60)).alloc (.cells #[.slice (some ⟨w2.heap.size, 0, none⟩) 1 1] 24)) _ _ else _)
           refine stepOneRow (w := ((w2.alloc (.cells #[.int .i64 v.kind, .int .i64 v.int, .string v.str] 60)).alloc (.cells #[.slice (some ⟨w2.heap.size, 0, none⟩) 1 1] 24))) rfl (.tmp 21) (.tmp 25) rfl W0.heap.size v2 X (by simp [Act.eval, Act.put]) (HO2.out.keep (((Below.refl w2.heap.size w2).alloc (by simp; try omega) _).alloc (by simp; try omega) _)) (w2.heap.size + 1) (w2.heap.size) v (by simp [Act.eval, Act.put]) (show Row ((w2.alloc (.cells #[.int .i64 v.kind, .int .i64 v.int, .string v.str] 60)).alloc (.cells #[.slice (some ⟨w2.heap.size, 0, none⟩) 1 1] 24)) (w2.heap.size + 1) 24 [.slice (some ⟨w2.heap.size, 0, none⟩) 1 1] from (by have h := (Row.new (w2.alloc (.cells #[.int .i64 v.kind, .int .i64 v.int, .string v.str] 60)) 24 [.slice (some ⟨w2.heap.size, 0, none⟩) 1 1]); (try simp only [World.size_alloc] at h); exact h)) (show Row ((w2.alloc (.cells #[.int .i64 v.kind, .int .i64 v.int, .string v.str] 60)).alloc (.cells #[.slice (some ⟨w2.heap.size, 0, none⟩) 1 1] 24)) (w2.heap.size) 60 (vcells v) from (by have h := ((Row.new w2 60 (vcells v)).alloc (.cells #[.slice (some ⟨w2.heap.size, 0, none⟩) 1 1] 24)); (try simp only [World.size_alloc] at h); exact h)) (fun e => by obtain ⟨hs0, h0, -⟩ := HO2.out; have h := own_lt h0 _ e; omega) (by omega) (by (try simp only [World.size_alloc]); omega) ?_
           intro v3 w3 hown3 hg3
           have HO3 := Lib.hid hown3
           have hw3 : Below W0.heap.size W0 w3 := ((HB2.out.alloc (by (try simp only [World.size_alloc]); omega) _).alloc (by (try simp only [World.size_alloc]); omega) _).grown hg3 (by (try simp only [World.size_alloc]); omega) (fun k hk => HO2.out.base k hk)
           have HB3 := Lib.hid hw3
           have KEEP2 : w3.cell? ⟨w.heap.size, 3, none⟩ = some (.int .i64 v.kind) ∧ w3.cell? ⟨w.heap.size, 4, none⟩ = some (.int .i64 v.int) ∧ w3.cell? ⟨w.heap.size, 5, none⟩ = some (.string v.str) := ⟨(hw3.cell (p := ⟨w.heap.size, 3, none⟩) hzw).trans p3, (hw3.cell (p := ⟨w.heap.size, 4, none⟩) hzw).trans p4, (hw3.cell (p := ⟨w.heap.size, 5, none⟩) hzw).trans p5⟩
           clear hown3 hg3 hw3)
        | (with_reducible change (if _ then Oper.wp _ _ _ (W0.alloc (.cells #[] 24)).drew _ _ else _)
           refine stepManyRow (w := (W0.alloc (.cells #[] 24)).drew) rfl (.tmp 19) (.tmp 20) rfl W0.heap.size (W0.heap.size) (by simp [Act.eval, Act.put]) (show Row (W0.alloc (.cells #[] 24)).drew (W0.heap.size) 24 [] from (Row.new W0 24 [])) (by omega) A C X (by simp [Act.eval, Act.put]) (show SlRs W0.heap.size _ A X from HX0.out.ext (Nat.le_refl _) ((Ext.refl W0).alloc _).drew) (by omega) ?_
           intro v2 w2 hown2 hg2 hat2
           have HO2 := Lib.hid hown2
           have hw2 : Below W0.heap.size W0 w2 := (((Below.refl W0.heap.size W0).alloc (by simp; try omega) _).drew).grown hg2 (by simp; try omega) (fun k hk => by injection hk; omega)
           have HB2 := Lib.hid hw2
           have hz2 := hw2.size
           have HA2 : Hid (∀ k, v2.ownBlock = some k → k = W0.heap.size ∨ W0.heap.size + 1 ≤ k) := fun k hk => (hat2 k hk).imp id (fun h => by simp at h; omega)
           have KEEP : w2.cell? ⟨w.heap.size, 3, none⟩ = some (.int .i64 v.kind) ∧ w2.cell? ⟨w.heap.size, 4, none⟩ = some (.int .i64 v.int) ∧ w2.cell? ⟨w.heap.size, 5, none⟩ = some (.string v.str) := ⟨(hw2.cell (p := ⟨w.heap.size, 3, none⟩) hzw).trans p3, (hw2.cell (p := ⟨w.heap.size, 4, none⟩) hzw).trans p4, (hw2.cell (p := ⟨w.heap.size, 5, none⟩) hzw).trans p5⟩
           clear hown2 hg2 hw2 hat2)
        | (with_reducible change (if _ then Oper.wp _ _ _ ((W0.alloc (.cells #[] 24)).alloc (.cells #[.int .i64 v.kind, .int .i64 v.int, .string v.str] 60)).drew _ _ else _)
           refine stepManyRow (w := ((W0.alloc (.cells #[] 24)).alloc (.cells #[.int .i64 v.kind, .int .i64 v.int, .string v.str] 60)).drew) rfl (.tmp 19) (.tmp 20) rfl W0.heap.size (W0.heap.size) (by simp [Act.eval, Act.put]) (show Row ((W0.alloc (.cells #[] 24)).alloc (.cells #[.int .i64 v.kind, .int .i64 v.int, .string v.str] 60)).drew (W0.heap.size) 24 [] from ((Row.new W0 24 []).alloc (.cells #[.int .i64 v.kind, .int .i64 v.int, .string v.str] 60))) (by omega) A C X (by simp [Act.eval, Act.put]) (show SlRs W0.heap.size _ A X from HX0.out.ext (Nat.le_refl _) (((Ext.refl W0).alloc _).alloc _).drew) (by omega) ?_
           intro v2 w2 hown2 hg2 hat2
           have HO2 := Lib.hid hown2
           have hw2 : Below W0.heap.size W0 w2 := ((((Below.refl W0.heap.size W0).alloc (by simp; try omega) _).alloc (by simp; try omega) _).drew).grown hg2 (by simp; try omega) (fun k hk => by injection hk; omega)
           have HB2 := Lib.hid hw2
           have hz2 := hw2.size
           have HA2 : Hid (∀ k, v2.ownBlock = some k → k = W0.heap.size ∨ W0.heap.size + 2 ≤ k) := fun k hk => (hat2 k hk).imp id (fun h => by simp at h; omega)
           have HC2 := Lib.hid (Row.far_grown (show Row ((W0.alloc (.cells #[] 24)).alloc (.cells #[.int .i64 v.kind, .int .i64 v.int, .string v.str] 60)).drew (W0.heap.size + 1) 60 (vcells v) from (by have h := (Row.new (W0.alloc (.cells #[] 24)) 60 (vcells v)); simp only [World.size_alloc] at h; exact h)) hg2 (by omega))
           have KEEP : w2.cell? ⟨w.heap.size, 3, none⟩ = some (.int .i64 v.kind) ∧ w2.cell? ⟨w.heap.size, 4, none⟩ = some (.int .i64 v.int) ∧ w2.cell? ⟨w.heap.size, 5, none⟩ = some (.string v.str) := ⟨(hw2.cell (p := ⟨w.heap.size, 3, none⟩) hzw).trans p3, (hw2.cell (p := ⟨w.heap.size, 4, none⟩) hzw).trans p4, (hw2.cell (p := ⟨w.heap.size, 5, none⟩) hzw).trans p5⟩
           clear hown2 hg2 hw2 hat2)
        | (with_reducible change (if _ then Oper.wp _ _ _ (((W0.alloc (.cells #[] 24)).alloc (.cells #[.int .i64 v.kind, .int .i64 v.int, .string v.str] 60)).alloc (.cells #[.slice (some ⟨W0.heap.size + 1, 0, none⟩) 1 1] 24)).drew _ _ else _)
           refine stepManyRow (w := (((W0.alloc (.cells #[] 24)).alloc (.cells #[.int .i64 v.kind, .int .i64 v.int, .string v.str] 60)).alloc (.cells #[.slice (some ⟨W0.heap.size + 1, 0, none⟩) 1 1] 24)).drew) rfl (.tmp 19) (.tmp 20) rfl W0.heap.size (W0.heap.size) (by simp [Act.eval, Act.put]) (show Row (((W0.alloc (.cells #[] 24)).alloc (.cells #[.int .i64 v.kind, .int .i64 v.int, .string v.str] 60)).alloc (.cells #[.slice (some ⟨W0.heap.size + 1, 0, none⟩) 1 1] 24)).drew (W0.heap.size) 24 [] from (((Row.new W0 24 []).alloc (.cells #[.int .i64 v.kind, .int .i64 v.int, .string v.str] 60)).alloc (.cells #[.slice (some ⟨W0.heap.size + 1, 0, none⟩) 1 1] 24))) (by omega) A C X (by simp [Act.eval, Act.put]) (show SlRs W0.heap.size _ A X from HX0.out.ext (Nat.le_refl _) ((((Ext.refl W0).alloc _).alloc _).alloc _).drew) (by omega) ?_
           intro v2 w2 hown2 hg2 hat2
           have HO2 := Lib.hid hown2
           have hw2 : Below W0.heap.size W0 w2 := (((((Below.refl W0.heap.size W0).alloc (by simp; try omega) _).alloc (by simp; try omega) _).alloc (by simp; try omega) _).drew).grown hg2 (by simp; try omega) (fun k hk => by injection hk; omega)
           have HB2 := Lib.hid hw2
           have hz2 := hw2.size
           have HA2 : Hid (∀ k, v2.ownBlock = some k → k = W0.heap.size ∨ W0.heap.size + 3 ≤ k) := fun k hk => (hat2 k hk).imp id (fun h => by simp at h; omega)
           have HC2 := Lib.hid (Row.far_grown (show Row (((W0.alloc (.cells #[] 24)).alloc (.cells #[.int .i64 v.kind, .int .i64 v.int, .string v.str] 60)).alloc (.cells #[.slice (some ⟨W0.heap.size + 1, 0, none⟩) 1 1] 24)).drew (W0.heap.size + 1) 60 (vcells v) from (by have h := ((Row.new (W0.alloc (.cells #[] 24)) 60 (vcells v)).alloc (.cells #[.slice (some ⟨W0.heap.size + 1, 0, none⟩) 1 1] 24)); simp only [World.size_alloc] at h; exact h)) hg2 (by omega))
           have HD2 := Lib.hid (Row.far_grown (show Row (((W0.alloc (.cells #[] 24)).alloc (.cells #[.int .i64 v.kind, .int .i64 v.int, .string v.str] 60)).alloc (.cells #[.slice (some ⟨W0.heap.size + 1, 0, none⟩) 1 1] 24)).drew (W0.heap.size + 2) 24 [.slice (some ⟨W0.heap.size + 1, 0, none⟩) 1 1] from (by have h := (Row.new ((W0.alloc (.cells #[] 24)).alloc (.cells #[.int .i64 v.kind, .int .i64 v.int, .string v.str] 60)) 24 [.slice (some ⟨W0.heap.size + 1, 0, none⟩) 1 1]); simp only [World.size_alloc] at h; exact h)) hg2 (by omega))
           have KEEP : w2.cell? ⟨w.heap.size, 3, none⟩ = some (.int .i64 v.kind) ∧ w2.cell? ⟨w.heap.size, 4, none⟩ = some (.int .i64 v.int) ∧ w2.cell? ⟨w.heap.size, 5, none⟩ = some (.string v.str) := ⟨(hw2.cell (p := ⟨w.heap.size, 3, none⟩) hzw).trans p3, (hw2.cell (p := ⟨w.heap.size, 4, none⟩) hzw).trans p4, (hw2.cell (p := ⟨w.heap.size, 5, none⟩) hzw).trans p5⟩
           clear hown2 hg2 hw2 hat2)
        | (with_reducible change (if _ then Oper.wp _ _ _ ((W0.alloc (.cells #[.int .i64 v.kind, .int .i64 v.int, .string v.str] 60)).alloc (.cells #[] 24)).drew _ _ else _)
           refine stepManyRow (w := ((W0.alloc (.cells #[.int .i64 v.kind, .int .i64 v.int, .string v.str] 60)).alloc (.cells #[] 24)).drew) rfl (.tmp 19) (.tmp 20) rfl W0.heap.size (W0.heap.size + 1) (by simp [Act.eval, Act.put]) (show Row ((W0.alloc (.cells #[.int .i64 v.kind, .int .i64 v.int, .string v.str] 60)).alloc (.cells #[] 24)).drew (W0.heap.size + 1) 24 [] from (by have h := (Row.new (W0.alloc (.cells #[.int .i64 v.kind, .int .i64 v.int, .string v.str] 60)) 24 []); simp only [World.size_alloc] at h; exact h)) (by omega) A C X (by simp [Act.eval, Act.put]) (show SlRs W0.heap.size _ A X from HX0.out.ext (Nat.le_refl _) (((Ext.refl W0).alloc _).alloc _).drew) (by omega) ?_
           intro v2 w2 hown2 hg2 hat2
           have HO2 := Lib.hid hown2
           have hw2 : Below W0.heap.size W0 w2 := ((((Below.refl W0.heap.size W0).alloc (by simp; try omega) _).alloc (by simp; try omega) _).drew).grown hg2 (by simp; try omega) (fun k hk => by injection hk; omega)
           have HB2 := Lib.hid hw2
           have hz2 := hw2.size
           have HA2 : Hid (∀ k, v2.ownBlock = some k → k = W0.heap.size + 1 ∨ W0.heap.size + 2 ≤ k) := fun k hk => (hat2 k hk).imp id (fun h => by simp at h; omega)
           have HC2 := Lib.hid (Row.far_grown (show Row ((W0.alloc (.cells #[.int .i64 v.kind, .int .i64 v.int, .string v.str] 60)).alloc (.cells #[] 24)).drew (W0.heap.size) 60 (vcells v) from ((Row.new W0 60 (vcells v)).alloc (.cells #[] 24))) hg2 (by omega))
           have KEEP : w2.cell? ⟨w.heap.size, 3, none⟩ = some (.int .i64 v.kind) ∧ w2.cell? ⟨w.heap.size, 4, none⟩ = some (.int .i64 v.int) ∧ w2.cell? ⟨w.heap.size, 5, none⟩ = some (.string v.str) := ⟨(hw2.cell (p := ⟨w.heap.size, 3, none⟩) hzw).trans p3, (hw2.cell (p := ⟨w.heap.size, 4, none⟩) hzw).trans p4, (hw2.cell (p := ⟨w.heap.size, 5, none⟩) hzw).trans p5⟩
           clear hown2 hg2 hw2 hat2)
        | (with_reducible change (if _ then Oper.wp _ _ _ (((W0.alloc (.cells #[.int .i64 v.kind, .int .i64 v.int, .string v.str] 60)).alloc (.cells #[] 24)).alloc (.cells #[.slice (some ⟨W0.heap.size, 0, none⟩) 1 1] 24)).drew _ _ else _)
           refine stepManyRow (w := (((W0.alloc (.cells #[.int .i64 v.kind, .int .i64 v.int, .string v.str] 60)).alloc (.cells #[] 24)).alloc (.cells #[.slice (some ⟨W0.heap.size, 0, none⟩) 1 1] 24)).drew) rfl (.tmp 19) (.tmp 20) rfl W0.heap.size (W0.heap.size + 1) (by simp [Act.eval, Act.put]) (show Row (((W0.alloc (.cells #[.int .i64 v.kind, .int .i64 v.int, .string v.str] 60)).alloc (.cells #[] 24)).alloc (.cells #[.slice (some ⟨W0.heap.size, 0, none⟩) 1 1] 24)).drew (W0.heap.size + 1) 24 [] from (by have h := ((Row.new (W0.alloc (.cells #[.int .i64 v.kind, .int .i64 v.int, .string v.str] 60)) 24 []).alloc (.cells #[.slice (some ⟨W0.heap.size, 0, none⟩) 1 1] 24)); simp only [World.size_alloc] at h; exact h)) (by omega) A C X (by simp [Act.eval, Act.put]) (show SlRs W0.heap.size _ A X from HX0.out.ext (Nat.le_refl _) ((((Ext.refl W0).alloc _).alloc _).alloc _).drew) (by omega) ?_
           intro v2 w2 hown2 hg2 hat2
           have HO2 := Lib.hid hown2
           have hw2 : Below W0.heap.size W0 w2 := (((((Below.refl W0.heap.size W0).alloc (by simp; try omega) _).alloc (by simp; try omega) _).alloc (by simp; try omega) _).drew).grown hg2 (by simp; try omega) (fun k hk => by injection hk; omega)
           have HB2 := Lib.hid hw2
           have hz2 := hw2.size
           have HA2 : Hid (∀ k, v2.ownBlock = some k → k = W0.heap.size + 1 ∨ W0.heap.size + 3 ≤ k) := fun k hk => (hat2 k hk).imp id (fun h => by simp at h; omega)
           have HC2 := Lib.hid (Row.far_grown (show Row (((W0.alloc (.cells #[.int .i64 v.kind, .int .i64 v.int, .string v.str] 60)).alloc (.cells #[] 24)).alloc (.cells #[.slice (some ⟨W0.heap.size, 0, none⟩) 1 1] 24)).drew (W0.heap.size) 60 (vcells v) from (((Row.new W0 60 (vcells v)).alloc (.cells #[] 24)).alloc (.cells #[.slice (some ⟨W0.heap.size, 0, none⟩) 1 1] 24))) hg2 (by omega))
           have HD2 := Lib.hid (Row.far_grown (show Row (((W0.alloc (.cells #[.int .i64 v.kind, .int .i64 v.int, .string v.str] 60)).alloc (.cells #[] 24)).alloc (.cells #[.slice (some ⟨W0.heap.size, 0, none⟩) 1 1] 24)).drew (W0.heap.size + 2) 24 [.slice (some ⟨W0.heap.size, 0, none⟩) 1 1] from (by have h := (Row.new ((W0.alloc (.cells #[.int .i64 v.kind, .int .i64 v.int, .string v.str] 60)).alloc (.cells #[] 24)) 24 [.slice (some ⟨W0.heap.size, 0, none⟩) 1 1]); simp only [World.size_alloc] at h; exact h)) hg2 (by omega))
           have KEEP : w2.cell? ⟨w.heap.size, 3, none⟩ = some (.int .i64 v.kind) ∧ w2.cell? ⟨w.heap.size, 4, none⟩ = some (.int .i64 v.int) ∧ w2.cell? ⟨w.heap.size, 5, none⟩ = some (.string v.str) := ⟨(hw2.cell (p := ⟨w.heap.size, 3, none⟩) hzw).trans p3, (hw2.cell (p := ⟨w.heap.size, 4, none⟩) hzw).trans p4, (hw2.cell (p := ⟨w.heap.size, 5, none⟩) hzw).trans p5⟩
           clear hown2 hg2 hw2 hat2)
        | (with_reducible change (if _ then Oper.wp _ _ _ (((W0.alloc (.cells #[.int .i64 v.kind, .int .i64 v.int, .string v.str] 60)).alloc (.cells #[.slice (some ⟨W0.heap.size, 0, none⟩) 1 1] 24)).alloc (.cells #[] 24)).drew _ _ else _)
           refine stepManyRow (w := (((W0.alloc (.cells #[.int .i64 v.kind, .int .i64 v.int, .string v.str] 60)).alloc (.cells #[.slice (some ⟨W0.heap.size, 0, none⟩) 1 1] 24)).alloc (.cells #[] 24)).drew) rfl (.tmp 19) (.tmp 20) rfl W0.heap.size (W0.heap.size + 2) (by simp [Act.eval, Act.put]) (show Row (((W0.alloc (.cells #[.int .i64 v.kind, .int .i64 v.int, .string v.str] 60)).alloc (.cells #[.slice (some ⟨W0.heap.size, 0, none⟩) 1 1] 24)).alloc (.cells #[] 24)).drew (W0.heap.size + 2) 24 [] from (by have h := (Row.new ((W0.alloc (.cells #[.int .i64 v.kind, .int .i64 v.int, .string v.str] 60)).alloc (.cells #[.slice (some ⟨W0.heap.size, 0, none⟩) 1 1] 24)) 24 []); simp only [World.size_alloc] at h; exact h)) (by omega) A C X (by simp [Act.eval, Act.put]) (show SlRs W0.heap.size _ A X from HX0.out.ext (Nat.le_refl _) ((((Ext.refl W0).alloc _).alloc _).alloc _).drew) (by omega) ?_
           intro v2 w2 hown2 hg2 hat2
           have HO2 := Lib.hid hown2
           have hw2 : Below W0.heap.size W0 w2 := (((((Below.refl W0.heap.size W0).alloc (by simp; try omega) _).alloc (by simp; try omega) _).alloc (by simp; try omega) _).drew).grown hg2 (by simp; try omega) (fun k hk => by injection hk; omega)
           have HB2 := Lib.hid hw2
           have hz2 := hw2.size
           have HA2 : Hid (∀ k, v2.ownBlock = some k → k = W0.heap.size + 2 ∨ W0.heap.size + 3 ≤ k) := fun k hk => (hat2 k hk).imp id (fun h => by simp at h; omega)
           have HC2 := Lib.hid (Row.far_grown (show Row (((W0.alloc (.cells #[.int .i64 v.kind, .int .i64 v.int, .string v.str] 60)).alloc (.cells #[.slice (some ⟨W0.heap.size, 0, none⟩) 1 1] 24)).alloc (.cells #[] 24)).drew (W0.heap.size) 60 (vcells v) from (((Row.new W0 60 (vcells v)).alloc (.cells #[.slice (some ⟨W0.heap.size, 0, none⟩) 1 1] 24)).alloc (.cells #[] 24))) hg2 (by omega))
           have HD2 := Lib.hid (Row.far_grown (show Row (((W0.alloc (.cells #[.int .i64 v.kind, .int .i64 v.int, .string v.str] 60)).alloc (.cells #[.slice (some ⟨W0.heap.size, 0, none⟩) 1 1] 24)).alloc (.cells #[] 24)).drew (W0.heap.size + 1) 24 [.slice (some ⟨W0.heap.size, 0, none⟩) 1 1] from (by have h := ((Row.new (W0.alloc (.cells #[.int .i64 v.kind, .int .i64 v.int, .string v.str] 60)) 24 [.slice (some ⟨W0.heap.size, 0, none⟩) 1 1]).alloc (.cells #[] 24)); simp only [World.size_alloc] at h; exact h)) hg2 (by omega))
           have KEEP : w2.cell? ⟨w.heap.size, 3, none⟩ = some (.int .i64 v.kind) ∧ w2.cell? ⟨w.heap.size, 4, none⟩ = some (.int .i64 v.int) ∧ w2.cell? ⟨w.heap.size, 5, none⟩ = some (.string v.str) := ⟨(hw2.cell (p := ⟨w.heap.size, 3, none⟩) hzw).trans p3, (hw2.cell (p := ⟨w.heap.size, 4, none⟩) hzw).trans p4, (hw2.cell (p := ⟨w.heap.size, 5, none⟩) hzw).trans p5⟩
           clear hown2 hg2 hw2 hat2)
        | fail)
    all_goals
      go_wp2_with fail
      go_meet
      case rel => exact ⟨rfl, HB4.out⟩
  case rest =>
    obtain ⟨rfl, hbc⟩ := hcut
    have HBC := Lib.hid (Below.then HB0.out hbc HB0.out.size)
    have HP1 := Lib.hid (HP0.out.below hbc hzw)
    have hzc : w.heap.size < wc.heap.size := by have := hbc.size; omega
    clear hbc p0 p1 p2 p3 p4 p5 HKK HG HB0 HX0 HP0
    cases hgr : greatF (X ++ [[v]])
    rotate_left
    · clear hgr
      go_wp2_with fail
      refine (l7awake_any _).mono ?_
      rintro e w5 ⟨rfl, hb5⟩
      have HB5 := Lib.hid (Below.then HBC.out hb5 HBC.out.size)
      clear hb5
      go_wp2
      go_ret
      exact ⟨rfl, HB5.out⟩
    obtain ⟨g1, g2, -⟩ := greatF_false hgr
    have HOK : Hid (RsOk X) := fun y hy => g2 y (by simp [hy])
    have HVS : v.str.size ≤ 1000000000 := (g2 [v] (by simp)).2 v (by simp)
    have hX40 : X.length ≤ 40 := by simp at g1; omega
    clear g1 g2 hgr
    go_wp2_with fail
    refine (l7made_any ((ar % 5 : Nat) : Int) A C X wc (by omega) (by omega) ((HX.out.below HBC.out (Nat.le_refl _)).more HBC.out.size) HOK.out (by omega)).mono ?_
    rintro e w2 ⟨rv, mv, rfl, ⟨RA, RC, rfl, hrc1, hrc2, hrs⟩, ⟨MA, MC, rfl, hmc1, hmc2, hms⟩, hb2⟩
    have hyl := Nat.le_trans (RL.ofF_length_le (validR ((ar % 5 : Nat) : Int) X)) (validR_length _ X)
    have HYO : Hid (RsOk (RL.ofF (validR ((ar % 5 : Nat) : Int) X))) := HOK.out.of_mem (fun y hy => validR_sub _ X y ((RL.mem_ofF _ _).1 hy))
    have HLEN : Hid (∀ x ∈ RL.ofF (validR ((ar % 5 : Nat) : Int) X), (x.length : Int) = ((ar % 5 : Nat) : Int)) := validR_len
    have HVAL : Hid (∀ x ∈ RL.ofF (validR ((ar % 5 : Nat) : Int) X), x.all RL.validV = true) := validR_val
    generalize RL.ofF (validR ((ar % 5 : Nat) : Int) X) = Y at *
    have HB2 := Lib.hid (Below.then (Below.then HBC.out hb2 HBC.out.size) ((Below.refl _ w2).alloc (Nat.le_refl _) (.cells #[.int .i64 ((ar : Int) % 5), .slice RA Y.length RC] 29)) (by have := hb2.size; have := HBC.out.size; omega))
    have HRS := Lib.hid (hrs.alloc1 (.cells #[.int .i64 ((ar : Int) % 5), .slice RA Y.length RC] 29))
    have HMS := Lib.hid (hms.alloc1 (.cells #[.int .i64 ((ar : Int) % 5), .slice RA Y.length RC] 29))
    have HRB := Lib.hid (Row.new w2 29 [.int .i64 ((ar : Int) % 5), .slice RA Y.length RC])
    have HP2 := Lib.hid ((HP1.out.below hb2 hzc).alloc (.cells #[.int .i64 ((ar : Int) % 5), .slice RA Y.length RC] 29))
    have c0 : w2.cell? ⟨w.heap.size, 0, none⟩ = some (.int .i64 col) := (HP1.out.below hb2 hzc).cell 0
    have c1 : w2.cell? ⟨w.heap.size, 1, none⟩ = some (.int .i64 op) := (HP1.out.below hb2 hzc).cell 1
    have c3 : w2.cell? ⟨w.heap.size, 3, none⟩ = some (.int .i64 v.kind) := (HP1.out.below hb2 hzc).cell 3
    have c4 : w2.cell? ⟨w.heap.size, 4, none⟩ = some (.int .i64 v.int) := (HP1.out.below hb2 hzc).cell 4
    have c5 : w2.cell? ⟨w.heap.size, 5, none⟩ = some (.string v.str) := (HP1.out.below hb2 hzc).cell 5
    have hz2 : w.heap.size < w2.heap.size := by have := hb2.size; omega
    clear hrs hms hb2 HBC HP1
    go_wp2_with fail
    have hzr := HRB.out.lt
    generalize hrb : w2.heap.size = rb at *
    generalize w2.alloc (.cells #[.int .i64 ((ar : Int) % 5), .slice RA Y.length RC] 29) = W2 at *
    clear hrb c0 c1 c3 c4 c5
    refine (rlSelect_all ((ar % 5 : Nat) : Int) RA RC Y col op v W2 HRS.out HYO.out (by omega) HLEN.out HVAL.out HVS).mono ?_
    rintro e w3 ⟨n1, Z, ZA, ZC, q, rfl, hall, hsZ, hb3⟩
    have HALL := Lib.hid hall
    have HSZ := Lib.hid (hsZ.alloc1 (.cells #[.int .i64 n1, .slice ZA Z.length ZC] 29))
    have HRZ := Lib.hid (Row.new w3 29 [.int .i64 n1, .slice ZA Z.length ZC])
    have HB3 := Lib.hid (hb3.alloc hb3.size (.cells #[.int .i64 n1, .slice ZA Z.length ZC] 29))
    have c0 : w3.cell? ⟨w.heap.size, 0, none⟩ = some (.int .i64 col) := (HP2.out.below hb3 (by omega)).cell 0
    have c2 : w3.cell? ⟨w.heap.size, 2, none⟩ = some (.int .i64 oth) := (HP2.out.below hb3 (by omega)).cell 2
    have r0 : w3.cell? ⟨rb, 0, none⟩ = some (.int .i64 ((ar : Int) % 5)) := (HRB.out.below hb3 hzr).cell 0
    have r1 : w3.cell? ⟨rb, 1, none⟩ = some (.slice RA Y.length RC) := (HRB.out.below hb3 hzr).cell 1
    have hz3 := hb3.size
    have hz3r : rb < w3.heap.size := by omega
    have hz3w : w.heap.size < w3.heap.size := by omega
    clear hall hsZ hb3
    go_wp2_with fail
    have hzz := HRZ.out.lt
    generalize hzb : w3.heap.size = zb at *
    generalize w3.alloc (.cells #[.int .i64 n1, .slice ZA Z.length ZC] 29) = W3 at *
    clear hzb c0 c2 r0 r1
    refine (rlSelectSame_all ((ar % 5 : Nat) : Int) RA RC Y col oth W3 (HRS.out.upB HB3.out) HYO.out (by omega) HLEN.out).mono ?_
    rintro e w4 ⟨n2, V, VA, VC, q2, rfl, hall, hsV, hb4⟩
    have HALL2 := Lib.hid hall
    have HSV := Lib.hid (hsV.alloc1 (.cells #[.int .i64 n2, .slice VA V.length VC] 29))
    have HRV := Lib.hid (Row.new w4 29 [.int .i64 n2, .slice VA V.length VC])
    have HB4 := Lib.hid (Below.then HB3.out (hb4.alloc hb4.size (.cells #[.int .i64 n2, .slice VA V.length VC] 29)) HB3.out.size)
    have HSZ4 := Lib.hid ((HSZ.out.upB hb4).alloc1 (.cells #[.int .i64 n2, .slice VA V.length VC] 29))
    have HRZ4 := Lib.hid ((HRZ.out.below hb4 hzz).alloc (.cells #[.int .i64 n2, .slice VA V.length VC] 29))
    have hz4 := hb4.size
    have c0 : w4.cell? ⟨w.heap.size, 0, none⟩ = some (.int .i64 col) := ((HP2.out.below HB3.out (by omega)).below hb4 (by omega)).cell 0
    have hz4w : w.heap.size < w4.heap.size := by omega
    clear hall hsV hb4 HSZ HRZ
    go_upto_region 7 with fail
    have hvv := HRV.out.lt
    have hz4z : zb < w4.heap.size := by omega
    have HP4 := Lib.hid (HP2.out.below HB4.out (by have := HB3.out.size; omega))
    generalize hvb : w4.heap.size = vb at *
    generalize w4.alloc (.cells #[.int .i64 n2, .slice VA V.length VC] 29) = W4 at *
    clear hvb c0
    have c0 : W4.cell? ⟨w.heap.size, 0, none⟩ = some (.int .i64 col) := HP4.out.cell 0
    have c1 : W4.cell? ⟨w.heap.size, 1, none⟩ = some (.int .i64 op) := HP4.out.cell 1
    have c2 : W4.cell? ⟨w.heap.size, 2, none⟩ = some (.int .i64 oth) := HP4.out.cell 2
    have c3 : W4.cell? ⟨w.heap.size, 3, none⟩ = some (.int .i64 v.kind) := HP4.out.cell 3
    have c4 : W4.cell? ⟨w.heap.size, 4, none⟩ = some (.int .i64 v.int) := HP4.out.cell 4
    have c5 : W4.cell? ⟨w.heap.size, 5, none⟩ = some (.string v.str) := HP4.out.cell 5
    go_cut [15] (fun b wx => b = .bool (decide (0 ≤ col ∧ col < (ar : Int) % 5)) ∧ wx = W4)
    case first =>
      by_cases h1 : 0 ≤ col
      · by_cases h2 : col < (ar : Int) % 5
        · go_wp2_with fail
          go_meet
          case rel => exact ⟨by congr 1; symm; first | (apply decide_eq_true; omega) | (apply decide_eq_false; omega), rfl⟩
        · go_wp2_with fail
          go_meet
          case rel => exact ⟨by congr 1; symm; first | (apply decide_eq_true; omega) | (apply decide_eq_false; omega), rfl⟩
      · go_wp2_with fail
        go_meet
        case rel => exact ⟨by congr 1; symm; first | (apply decide_eq_true; omega) | (apply decide_eq_false; omega), rfl⟩
    case rest =>
      obtain ⟨rfl, hwc⟩ := hcut
      obtain rfl := hwc.symm
      clear hwc
      obtain ⟨inn, hinn⟩ : ∃ b, b = decide (0 ≤ col ∧ col < (ar : Int) % 5) := ⟨_, rfl⟩
      rw [← hinn]
      have HIN := Lib.hid hinn
      clear hinn
      have hzbW : zb < W4.heap.size := by omega
      have hzwW : w.heap.size < W4.heap.size := by omega
      have HEND := Lib.hid (fun (W : World) (hb : Below W4.heap.size W4 W) => (l7awake_any W).mono (fun e W' h => (⟨h.1, Below.then HB2.out (Below.then HB4.out (Below.then hb h.2 hb.size) HB4.out.size) HB2.out.size⟩ : e = .returned (.bool true) ∧ Below w.heap.size w W')))
      cases inn
      · have hn : ¬ (0 ≤ col ∧ col < (ar : Int) % 5) := by simpa using HIN.out
        have he : selErr ((ar % 5 : Nat) : Int) col op v = 3 := by unfold selErr; rw [if_neg (by omega)]
        obtain ⟨rfl, ⟨-, rfl, rfl⟩ | ⟨h0, -⟩⟩ := HALL.out
        rotate_left
        · omega
        have HBX := Lib.hid (Below.refl W4.heap.size W4)
        rw [he]
        clear he
        have k0 : W4.cell? ⟨zb, 0, none⟩ = some (.int .i64 0) := HRZ4.out.cell 0
        have k1 : W4.cell? ⟨zb, 1, none⟩ = some (.slice ZA 0 ZC) := HRZ4.out.cell 1
        go_wp2_with fail
        refine wp_region_held_drew (S := (fun w' => w'.cell? ⟨zb, 0, none⟩ = some (.int .i64 0) ∧ w'.cell? ⟨zb, 1, none⟩ = some (.slice ZA 0 ZC))) (by kernel_rfl) (by first | exact ⟨k0', k1'⟩ | exact ⟨k0, k1⟩) (fun hHeld => ?_)
        refine takeAt (i := 0) (v := ?_) (some 82) rfl rfl (by kernel_rfl) (by kernel_rfl) (by kernel_rfl) (fun _ _ _ h => h) (Or.inl ⟨by rfl, ?_⟩) (by assumption) ?_
        rotate_left 1
        · (intro w0 hSw; (try dsimp only at hSw); go_simp; try (with_reducible rfl))
        try simp only [Act.put, List.setIfInBounds_toArray, List.set_cons_zero, List.set_cons_succ]
        refine takeAt (i := 1) (v := ?_) (some 83) rfl rfl (by kernel_rfl) (by kernel_rfl) (by kernel_rfl) (fun _ _ _ h => h) (Or.inl ⟨by rfl, ?_⟩) (by assumption) ?_
        rotate_left 1
        · (intro w0 hSw; (try dsimp only at hSw); go_simp; try (with_reducible rfl))
        try simp only [Act.put, List.setIfInBounds_toArray, List.set_cons_zero, List.set_cons_succ]
        refine takeAt (i := 2) (v := ?_) (some 84) rfl rfl (by kernel_rfl) (by kernel_rfl) (by kernel_rfl) (fun _ _ _ h => h) (Or.inl ⟨by rfl, ?_⟩) (by assumption) ?_
        rotate_left 1
        · (intro w0 hSw; (try dsimp only at hSw); go_simp; try (with_reducible rfl))
        try simp only [Act.put, List.setIfInBounds_toArray, List.set_cons_zero, List.set_cons_succ]
        refine takeAt (i := 3) (v := ?_) (some 85) rfl rfl (by kernel_rfl) (by kernel_rfl) (by kernel_rfl) (fun _ _ _ h => h) (Or.inl ⟨by rfl, ?_⟩) (by assumption) ?_
        rotate_left 1
        · (intro w0 hSw; (try dsimp only at hSw); go_simp; try (with_reducible rfl))
        try simp only [Act.put, List.setIfInBounds_toArray, List.set_cons_zero, List.set_cons_succ]
        refine takeAt (i := 4) (v := ?_) (some 86) rfl rfl (by kernel_rfl) (by kernel_rfl) (by kernel_rfl) (fun _ _ _ h => h) (Or.inl ⟨by rfl, ?_⟩) (by assumption) ?_
        rotate_left 1
        · (intro w0 hSw; (try dsimp only at hSw); go_simp; try (with_reducible rfl))
        try simp only [Act.put, List.setIfInBounds_toArray, List.set_cons_zero, List.set_cons_succ]
        refine takeAt (i := 5) (v := ?_) (some 87) rfl rfl (by kernel_rfl) (by kernel_rfl) (by kernel_rfl) (fun _ _ _ h => h) (Or.inl ⟨by rfl, ?_⟩) (by assumption) ?_
        rotate_left 1
        · (intro w0 hSw; (try dsimp only at hSw); go_simp; try (with_reducible rfl))
        try simp only [Act.put, List.setIfInBounds_toArray, List.set_cons_zero, List.set_cons_succ]
        refine takeAt (i := 6) (v := ?_) (some 88) rfl rfl (by kernel_rfl) (by kernel_rfl) (by kernel_rfl) (fun _ _ _ h => h) (Or.inl ⟨by rfl, ?_⟩) (by assumption) ?_
        rotate_left 1
        · (intro w0 hSw; (try dsimp only at hSw); go_simp; try (with_reducible rfl))
        try simp only [Act.put, List.setIfInBounds_toArray, List.set_cons_zero, List.set_cons_succ]
        refine takeAt (i := 7) (v := ?_) (some 89) rfl rfl (by kernel_rfl) (by kernel_rfl) (by kernel_rfl) (fun _ _ _ h => h) (Or.inl ⟨by rfl, ?_⟩) (by assumption) ?_
        rotate_left 1
        · (intro w0 hSw; (try dsimp only at hSw); go_simp; try (with_reducible rfl))
        try simp only [Act.put, List.setIfInBounds_toArray, List.set_cons_zero, List.set_cons_succ]
        refine takeAt (i := 8) (v := ?_) (some 90) rfl rfl (by kernel_rfl) (by kernel_rfl) (by kernel_rfl) (fun _ _ _ h => h) (Or.inl ⟨by rfl, ?_⟩) (by assumption) ?_
        rotate_left 1
        · (intro w0 hSw; (try dsimp only at hSw); go_simp; try (with_reducible rfl))
        try simp only [Act.put, List.setIfInBounds_toArray, List.set_cons_zero, List.set_cons_succ]
        refine takeAt (i := 9) (v := ?_) (some 91) rfl rfl (by kernel_rfl) (by kernel_rfl) (by kernel_rfl) (fun _ _ _ h => h) (Or.inl ⟨by rfl, ?_⟩) (by assumption) ?_
        rotate_left 1
        · (intro w0 hSw; (try dsimp only at hSw); go_simp; try (with_reducible rfl))
        try simp only [Act.put, List.setIfInBounds_toArray, List.set_cons_zero, List.set_cons_succ]
        refine takeAt (i := 10) (v := ?_) (some 92) rfl rfl (by kernel_rfl) (by kernel_rfl) (by kernel_rfl) (fun _ _ _ h => h) (Or.inl ⟨by rfl, ?_⟩) (by assumption) ?_
        rotate_left 1
        · (intro w0 hSw; (try dsimp only at hSw); go_simp; try (with_reducible rfl))
        try simp only [Act.put, List.setIfInBounds_toArray, List.set_cons_zero, List.set_cons_succ]
        refine takeAt (i := 11) (v := undef) (some 93) rfl rfl (by kernel_rfl) (by kernel_rfl) (by kernel_rfl) (fun _ _ _ h => h) (Or.inr ⟨by rfl, rfl⟩) (by assumption) ?_
        try simp only [Act.put, List.setIfInBounds_toArray, List.set_cons_zero, List.set_cons_succ]
        refine takeAt (i := 12) (v := undef) (some 94) rfl rfl (by kernel_rfl) (by kernel_rfl) (by kernel_rfl) (fun _ _ _ h => h) (Or.inr ⟨by rfl, rfl⟩) (by assumption) ?_
        try simp only [Act.put, List.setIfInBounds_toArray, List.set_cons_zero, List.set_cons_succ]
        refine takeAt (i := 13) (v := undef) (some 95) rfl rfl (by kernel_rfl) (by kernel_rfl) (by kernel_rfl) (fun _ _ _ h => h) (Or.inr ⟨by rfl, rfl⟩) (by assumption) ?_
        try simp only [Act.put, List.setIfInBounds_toArray, List.set_cons_zero, List.set_cons_succ]
        refine takeAt (i := 14) (v := undef) (some 96) rfl rfl (by kernel_rfl) (by kernel_rfl) (by kernel_rfl) (fun _ _ _ h => h) (Or.inr ⟨by rfl, rfl⟩) (by assumption) ?_
        try simp only [Act.put, List.setIfInBounds_toArray, List.set_cons_zero, List.set_cons_succ]
        refine takeAt (i := 15) (v := undef) (some 97) rfl rfl (by kernel_rfl) (by kernel_rfl) (by kernel_rfl) (fun _ _ _ h => h) (Or.inr ⟨by rfl, rfl⟩) (by assumption) ?_
        try simp only [Act.put, List.setIfInBounds_toArray, List.set_cons_zero, List.set_cons_succ]
        refine takeAt (i := 16) (v := undef) (some 98) rfl rfl (by kernel_rfl) (by kernel_rfl) (by kernel_rfl) (fun _ _ _ h => h) (Or.inr ⟨by rfl, rfl⟩) (by assumption) ?_
        try simp only [Act.put, List.setIfInBounds_toArray, List.set_cons_zero, List.set_cons_succ]
        refine takeAt (i := 17) (v := undef) (some 99) rfl rfl (by kernel_rfl) (by kernel_rfl) (by kernel_rfl) (fun _ _ _ h => h) (Or.inr ⟨by rfl, rfl⟩) (by assumption) ?_
        try simp only [Act.put, List.setIfInBounds_toArray, List.set_cons_zero, List.set_cons_succ]
        refine takeAt (i := 18) (v := undef) (some 100) rfl rfl (by kernel_rfl) (by kernel_rfl) (by kernel_rfl) (fun _ _ _ h => h) (Or.inr ⟨by rfl, rfl⟩) (by assumption) ?_
        try simp only [Act.put, List.setIfInBounds_toArray, List.set_cons_zero, List.set_cons_succ]
        refine takeAt (i := 19) (v := undef) (some 101) rfl rfl (by kernel_rfl) (by kernel_rfl) (by kernel_rfl) (fun _ _ _ h => h) (Or.inr ⟨by rfl, rfl⟩) (by assumption) ?_
        try simp only [Act.put, List.setIfInBounds_toArray, List.set_cons_zero, List.set_cons_succ]
        refine takeAt (i := 20) (v := undef) (some 102) rfl rfl (by kernel_rfl) (by kernel_rfl) (by kernel_rfl) (fun _ _ _ h => h) (Or.inr ⟨by rfl, rfl⟩) (by assumption) ?_
        try simp only [Act.put, List.setIfInBounds_toArray, List.set_cons_zero, List.set_cons_succ]
        refine takeAt (i := 21) (v := undef) (some 103) rfl rfl (by kernel_rfl) (by kernel_rfl) (by kernel_rfl) (fun _ _ _ h => h) (Or.inr ⟨by rfl, rfl⟩) (by assumption) ?_
        try simp only [Act.put, List.setIfInBounds_toArray, List.set_cons_zero, List.set_cons_succ]
        refine takeAt (i := 22) (v := undef) (some 104) rfl rfl (by kernel_rfl) (by kernel_rfl) (by kernel_rfl) (fun _ _ _ h => h) (Or.inr ⟨by rfl, rfl⟩) (by assumption) ?_
        try simp only [Act.put, List.setIfInBounds_toArray, List.set_cons_zero, List.set_cons_succ]
        refine takeAt (i := 23) (v := ?_) (some 105) rfl rfl (by kernel_rfl) (by kernel_rfl) (by kernel_rfl) (fun _ _ _ h => h) (Or.inl ⟨by rfl, ?_⟩) (by assumption) ?_
        rotate_left 1
        · (intro w0 hSw; (try dsimp only at hSw); go_simp; try (with_reducible rfl))
        try simp only [Act.put, List.setIfInBounds_toArray, List.set_cons_zero, List.set_cons_succ]
        refine takeAt (i := 24) (v := ?_) (some 106) rfl rfl (by kernel_rfl) (by kernel_rfl) (by kernel_rfl) (fun _ _ _ h => h) (Or.inl ⟨by rfl, ?_⟩) (by assumption) ?_
        rotate_left 1
        · (intro w0 hSw; (try dsimp only at hSw); go_simp; try (with_reducible rfl))
        try simp only [Act.put, List.setIfInBounds_toArray, List.set_cons_zero, List.set_cons_succ]
        refine takeAt (i := 25) (v := ?_) (some 107) rfl rfl (by kernel_rfl) (by kernel_rfl) (by kernel_rfl) (fun _ _ _ h => h) (Or.inl ⟨by rfl, ?_⟩) (by assumption) ?_
        rotate_left 1
        · (intro w0 hSw; (try dsimp only at hSw); go_simp; try (with_reducible rfl))
        try simp only [Act.put, List.setIfInBounds_toArray, List.set_cons_zero, List.set_cons_succ]
        refine takeAt (i := 26) (v := ?_) (some 108) rfl rfl (by kernel_rfl) (by kernel_rfl) (by kernel_rfl) (fun _ _ _ h => h) (Or.inl ⟨by rfl, ?_⟩) (by assumption) ?_
        rotate_left 1
        · (intro w0 hSw; (try dsimp only at hSw); go_simp; try (with_reducible rfl))
        try simp only [Act.put, List.setIfInBounds_toArray, List.set_cons_zero, List.set_cons_succ]
        refine takeAt (i := 27) (v := ?_) (some 109) rfl rfl (by kernel_rfl) (by kernel_rfl) (by kernel_rfl) (fun _ _ _ h => h) (Or.inl ⟨by rfl, ?_⟩) (by assumption) ?_
        rotate_left 1
        · (intro w0 hSw; (try dsimp only at hSw); go_simp; try (with_reducible rfl))
        try simp only [Act.put, List.setIfInBounds_toArray, List.set_cons_zero, List.set_cons_succ]
        refine takeAt (i := 28) (v := ?_) (some 110) rfl rfl (by kernel_rfl) (by kernel_rfl) (by kernel_rfl) (fun _ _ _ h => h) (Or.inl ⟨by rfl, ?_⟩) (by assumption) ?_
        rotate_left 1
        · (intro w0 hSw; (try dsimp only at hSw); go_simp; try (with_reducible rfl))
        try simp only [Act.put, List.setIfInBounds_toArray, List.set_cons_zero, List.set_cons_succ]
        refine takeAt (i := 29) (v := ?_) (some 111) rfl rfl (by kernel_rfl) (by kernel_rfl) (by kernel_rfl) (fun _ _ _ h => h) (Or.inl ⟨by rfl, ?_⟩) (by assumption) ?_
        rotate_left 1
        · (intro w0 hSw; (try dsimp only at hSw); go_simp; try (with_reducible rfl))
        try simp only [Act.put, List.setIfInBounds_toArray, List.set_cons_zero, List.set_cons_succ]
        refine wpAnyH_ready (rs := [30]) (by kernel_rfl) (by simp) ?_
        refine AllReadyH.cons rfl (fun K hK => ?_) AllReadyH.nil
        go_simp
        refine (l7Is_nil 0 ZA ZC _).mono ?_
        rintro e w7 ⟨rfl, hb7⟩
        have HB7 := Lib.hid (Below.then HBX.out (Below.undrew hb7) HBX.out.size)
        have KEEP1 : w7.cell? ⟨zb, 0, none⟩ = some (.int .i64 0) ∧ w7.cell? ⟨zb, 1, none⟩ = some (.slice ZA 0 ZC) := ⟨(HB7.out.cell (p := ⟨zb, 0, none⟩) hzbW).trans k0, (HB7.out.cell (p := ⟨zb, 1, none⟩) hzbW).trans k1⟩
        clear hb7
        go_wp2_with fail
        refine hK.out _ _ KEEP1 (fun hHeld => ?_)
        clear hK K
        try simp only [Act.put, List.setIfInBounds_toArray, List.set_cons_zero, List.set_cons_succ]
        refine takeAt (i := 31) (v := ?_) (some 113) rfl rfl (by kernel_rfl) (by kernel_rfl) (by kernel_rfl) (fun _ _ _ h => h) (Or.inl ⟨by rfl, ?_⟩) (by assumption) ?_
        rotate_left 1
        · (intro w0 hSw; (try dsimp only at hSw); go_simp; try (with_reducible rfl))
        try simp only [Act.put, List.setIfInBounds_toArray, List.set_cons_zero, List.set_cons_succ]
        refine takeAt (i := 32) (v := ?_) (some 114) rfl rfl (by kernel_rfl) (by kernel_rfl) (by kernel_rfl) (fun _ _ _ h => h) (Or.inl ⟨by rfl, ?_⟩) (by assumption) ?_
        rotate_left 1
        · (intro w0 hSw; (try dsimp only at hSw); go_simp; try (with_reducible rfl))
        try simp only [Act.put, List.setIfInBounds_toArray, List.set_cons_zero, List.set_cons_succ]
        refine takeAt (i := 33) (v := ?_) (some 115) rfl rfl (by kernel_rfl) (by kernel_rfl) (by kernel_rfl) (fun _ _ _ h => h) (Or.inl ⟨by rfl, ?_⟩) (by assumption) ?_
        rotate_left 1
        · (intro w0 hSw; (try dsimp only at hSw); go_simp; try (with_reducible rfl))
        try simp only [Act.put, List.setIfInBounds_toArray, List.set_cons_zero, List.set_cons_succ]
        refine wpAnyH_done (by kernel_rfl) ?_ _
        all_goals
          skip
          have hib : inBoth ((ar % 5 : Nat) : Int) col oth = false := by
            unfold inBoth
            simp
            omega
          rcases HALL2.out with ⟨-, rfl, rfl, rfl⟩ | ⟨hib2, -⟩
          rotate_left
          · rw [hib] at hib2; cases hib2
          have y0 : w7.cell? ⟨vb, 0, none⟩ = some (.int .i64 0) := (HB7.out.cell (p := ⟨vb, 0, none⟩) hvv).trans (HRV.out.cell 0)
          have y1 : w7.cell? ⟨vb, 1, none⟩ = some (.slice VA 0 VC) := (HB7.out.cell (p := ⟨vb, 1, none⟩) hvv).trans (HRV.out.cell 1)
          clear hib
          go_wp2_with fail
          refine (l7Is_nil 0 VA VC w7).mono ?_
          rintro e w8 ⟨rfl, hb8⟩
          have HB8 := Lib.hid (Below.then HB7.out hb8 HB7.out.size)
          clear hb8
          go_wp2_with fail
          refine (HEND.out w8 HB8.out).mono ?_
          rintro e w9 ⟨rfl, hb9⟩
          go_wp2
          go_ret
          exact ⟨rfl, hb9⟩
      · have hn : 0 ≤ col ∧ col < (ar : Int) % 5 := by simpa using HIN.out
        have he : selErr ((ar % 5 : Nat) : Int) col op v = if op < 0 ∨ 5 < op then 2 else if RL.validV v = true then 0 else 4 := by unfold selErr; rw [if_pos (by omega)]
        by_cases ho : op < 0 ∨ 5 < op
        · rw [if_pos ho] at he
          obtain ⟨rfl, ⟨-, rfl, rfl⟩ | ⟨h0, -⟩⟩ := HALL.out
          rotate_left
          · omega
          have HBX := Lib.hid (Below.refl W4.heap.size W4)
          rw [he]
          clear he
          have k0 : W4.cell? ⟨zb, 0, none⟩ = some (.int .i64 0) := HRZ4.out.cell 0
          have k1 : W4.cell? ⟨zb, 1, none⟩ = some (.slice ZA 0 ZC) := HRZ4.out.cell 1
          by_cases o1 : op < 0
          · have o1' : decide (op < 0) = true := by simpa using o1
            go_wp2_with fail
            refine wp_region_held_drew (S := (fun w' => w'.cell? ⟨zb, 0, none⟩ = some (.int .i64 0) ∧ w'.cell? ⟨zb, 1, none⟩ = some (.slice ZA 0 ZC))) (by kernel_rfl) (by first | exact ⟨k0', k1'⟩ | exact ⟨k0, k1⟩) (fun hHeld => ?_)
            refine takeAt (i := 0) (v := ?_) (some 82) rfl rfl (by kernel_rfl) (by kernel_rfl) (by kernel_rfl) (fun _ _ _ h => h) (Or.inl ⟨by rfl, ?_⟩) (by assumption) ?_
            rotate_left 1
            · (intro w0 hSw; (try dsimp only at hSw); go_simp; try (with_reducible rfl))
            try simp only [Act.put, List.setIfInBounds_toArray, List.set_cons_zero, List.set_cons_succ]
            refine takeAt (i := 1) (v := ?_) (some 83) rfl rfl (by kernel_rfl) (by kernel_rfl) (by kernel_rfl) (fun _ _ _ h => h) (Or.inl ⟨by rfl, ?_⟩) (by assumption) ?_
            rotate_left 1
            · (intro w0 hSw; (try dsimp only at hSw); go_simp; try (with_reducible rfl))
            try simp only [Act.put, List.setIfInBounds_toArray, List.set_cons_zero, List.set_cons_succ]
            refine takeAt (i := 2) (v := ?_) (some 84) rfl rfl (by kernel_rfl) (by kernel_rfl) (by kernel_rfl) (fun _ _ _ h => h) (Or.inl ⟨by rfl, ?_⟩) (by assumption) ?_
            rotate_left 1
            · (intro w0 hSw; (try dsimp only at hSw); go_simp; try (with_reducible rfl))
            try simp only [Act.put, List.setIfInBounds_toArray, List.set_cons_zero, List.set_cons_succ]
            refine takeAt (i := 3) (v := ?_) (some 85) rfl rfl (by kernel_rfl) (by kernel_rfl) (by kernel_rfl) (fun _ _ _ h => h) (Or.inl ⟨by rfl, ?_⟩) (by assumption) ?_
            rotate_left 1
            · (intro w0 hSw; (try dsimp only at hSw); go_simp; try (with_reducible rfl))
            try simp only [Act.put, List.setIfInBounds_toArray, List.set_cons_zero, List.set_cons_succ]
            refine takeAt (i := 4) (v := ?_) (some 86) rfl rfl (by kernel_rfl) (by kernel_rfl) (by kernel_rfl) (fun _ _ _ h => h) (Or.inl ⟨by rfl, ?_⟩) (by assumption) ?_
            rotate_left 1
            · (intro w0 hSw; (try dsimp only at hSw); go_simp; try (with_reducible rfl))
            try simp only [Act.put, List.setIfInBounds_toArray, List.set_cons_zero, List.set_cons_succ]
            refine takeAt (i := 5) (v := ?_) (some 87) rfl rfl (by kernel_rfl) (by kernel_rfl) (by kernel_rfl) (fun _ _ _ h => h) (Or.inl ⟨by rfl, ?_⟩) (by assumption) ?_
            rotate_left 1
            · (intro w0 hSw; (try dsimp only at hSw); go_simp; try (with_reducible rfl))
            try simp only [Act.put, List.setIfInBounds_toArray, List.set_cons_zero, List.set_cons_succ]
            refine takeAt (i := 6) (v := ?_) (some 88) rfl rfl (by kernel_rfl) (by kernel_rfl) (by kernel_rfl) (fun _ _ _ h => h) (Or.inl ⟨by rfl, ?_⟩) (by assumption) ?_
            rotate_left 1
            · (intro w0 hSw; (try dsimp only at hSw); go_simp; try (with_reducible rfl))
            try simp only [Act.put, List.setIfInBounds_toArray, List.set_cons_zero, List.set_cons_succ]
            refine takeAt (i := 7) (v := ?_) (some 89) rfl rfl (by kernel_rfl) (by kernel_rfl) (by kernel_rfl) (fun _ _ _ h => h) (Or.inl ⟨by rfl, ?_⟩) (by assumption) ?_
            rotate_left 1
            · (intro w0 hSw; (try dsimp only at hSw); go_simp; try (with_reducible rfl))
            try simp only [Act.put, List.setIfInBounds_toArray, List.set_cons_zero, List.set_cons_succ]
            refine takeAt (i := 8) (v := ?_) (some 90) rfl rfl (by kernel_rfl) (by kernel_rfl) (by kernel_rfl) (fun _ _ _ h => h) (Or.inl ⟨by rfl, ?_⟩) (by assumption) ?_
            rotate_left 1
            · (intro w0 hSw; (try dsimp only at hSw); go_simp; try (with_reducible rfl))
            try simp only [Act.put, List.setIfInBounds_toArray, List.set_cons_zero, List.set_cons_succ]
            refine takeAt (i := 9) (v := ?_) (some 91) rfl rfl (by kernel_rfl) (by kernel_rfl) (by kernel_rfl) (fun _ _ _ h => h) (Or.inl ⟨by rfl, ?_⟩) (by assumption) ?_
            rotate_left 1
            · (intro w0 hSw; (try dsimp only at hSw); go_simp; try (with_reducible rfl))
            try simp only [Act.put, List.setIfInBounds_toArray, List.set_cons_zero, List.set_cons_succ]
            refine takeAt (i := 10) (v := ?_) (some 92) rfl rfl (by kernel_rfl) (by kernel_rfl) (by kernel_rfl) (fun _ _ _ h => h) (Or.inl ⟨by rfl, ?_⟩) (by assumption) ?_
            rotate_left 1
            · (intro w0 hSw; (try dsimp only at hSw); go_simp; try (with_reducible rfl))
            try simp only [Act.put, List.setIfInBounds_toArray, List.set_cons_zero, List.set_cons_succ]
            refine takeAt (i := 11) (v := undef) (some 93) rfl rfl (by kernel_rfl) (by kernel_rfl) (by kernel_rfl) (fun _ _ _ h => h) (Or.inr ⟨by rfl, rfl⟩) (by assumption) ?_
            try simp only [Act.put, List.setIfInBounds_toArray, List.set_cons_zero, List.set_cons_succ]
            refine takeAt (i := 12) (v := undef) (some 94) rfl rfl (by kernel_rfl) (by kernel_rfl) (by kernel_rfl) (fun _ _ _ h => h) (Or.inr ⟨by rfl, rfl⟩) (by assumption) ?_
            try simp only [Act.put, List.setIfInBounds_toArray, List.set_cons_zero, List.set_cons_succ]
            refine takeAt (i := 13) (v := undef) (some 95) rfl rfl (by kernel_rfl) (by kernel_rfl) (by kernel_rfl) (fun _ _ _ h => h) (Or.inr ⟨by rfl, rfl⟩) (by assumption) ?_
            try simp only [Act.put, List.setIfInBounds_toArray, List.set_cons_zero, List.set_cons_succ]
            refine takeAt (i := 14) (v := undef) (some 96) rfl rfl (by kernel_rfl) (by kernel_rfl) (by kernel_rfl) (fun _ _ _ h => h) (Or.inr ⟨by rfl, rfl⟩) (by assumption) ?_
            try simp only [Act.put, List.setIfInBounds_toArray, List.set_cons_zero, List.set_cons_succ]
            refine takeAt (i := 15) (v := undef) (some 97) rfl rfl (by kernel_rfl) (by kernel_rfl) (by kernel_rfl) (fun _ _ _ h => h) (Or.inr ⟨by rfl, rfl⟩) (by assumption) ?_
            try simp only [Act.put, List.setIfInBounds_toArray, List.set_cons_zero, List.set_cons_succ]
            refine takeAt (i := 16) (v := undef) (some 98) rfl rfl (by kernel_rfl) (by kernel_rfl) (by kernel_rfl) (fun _ _ _ h => h) (Or.inr ⟨by rfl, rfl⟩) (by assumption) ?_
            try simp only [Act.put, List.setIfInBounds_toArray, List.set_cons_zero, List.set_cons_succ]
            refine takeAt (i := 17) (v := undef) (some 99) rfl rfl (by kernel_rfl) (by kernel_rfl) (by kernel_rfl) (fun _ _ _ h => h) (Or.inr ⟨by rfl, rfl⟩) (by assumption) ?_
            try simp only [Act.put, List.setIfInBounds_toArray, List.set_cons_zero, List.set_cons_succ]
            refine takeAt (i := 18) (v := undef) (some 100) rfl rfl (by kernel_rfl) (by kernel_rfl) (by kernel_rfl) (fun _ _ _ h => h) (Or.inr ⟨by rfl, rfl⟩) (by assumption) ?_
            try simp only [Act.put, List.setIfInBounds_toArray, List.set_cons_zero, List.set_cons_succ]
            refine takeAt (i := 19) (v := undef) (some 101) rfl rfl (by kernel_rfl) (by kernel_rfl) (by kernel_rfl) (fun _ _ _ h => h) (Or.inr ⟨by rfl, rfl⟩) (by assumption) ?_
            try simp only [Act.put, List.setIfInBounds_toArray, List.set_cons_zero, List.set_cons_succ]
            refine takeAt (i := 20) (v := undef) (some 102) rfl rfl (by kernel_rfl) (by kernel_rfl) (by kernel_rfl) (fun _ _ _ h => h) (Or.inr ⟨by rfl, rfl⟩) (by assumption) ?_
            try simp only [Act.put, List.setIfInBounds_toArray, List.set_cons_zero, List.set_cons_succ]
            refine takeAt (i := 21) (v := undef) (some 103) rfl rfl (by kernel_rfl) (by kernel_rfl) (by kernel_rfl) (fun _ _ _ h => h) (Or.inr ⟨by rfl, rfl⟩) (by assumption) ?_
            try simp only [Act.put, List.setIfInBounds_toArray, List.set_cons_zero, List.set_cons_succ]
            refine takeAt (i := 22) (v := undef) (some 104) rfl rfl (by kernel_rfl) (by kernel_rfl) (by kernel_rfl) (fun _ _ _ h => h) (Or.inr ⟨by rfl, rfl⟩) (by assumption) ?_
            try simp only [Act.put, List.setIfInBounds_toArray, List.set_cons_zero, List.set_cons_succ]
            refine takeAt (i := 23) (v := ?_) (some 105) rfl rfl (by kernel_rfl) (by kernel_rfl) (by kernel_rfl) (fun _ _ _ h => h) (Or.inl ⟨by rfl, ?_⟩) (by assumption) ?_
            rotate_left 1
            · (intro w0 hSw; (try dsimp only at hSw); go_simp; try (with_reducible rfl))
            try simp only [Act.put, List.setIfInBounds_toArray, List.set_cons_zero, List.set_cons_succ]
            refine takeAt (i := 24) (v := ?_) (some 106) rfl rfl (by kernel_rfl) (by kernel_rfl) (by kernel_rfl) (fun _ _ _ h => h) (Or.inl ⟨by rfl, ?_⟩) (by assumption) ?_
            rotate_left 1
            · (intro w0 hSw; (try dsimp only at hSw); go_simp; try (with_reducible rfl))
            try simp only [Act.put, List.setIfInBounds_toArray, List.set_cons_zero, List.set_cons_succ]
            refine takeAt (i := 25) (v := ?_) (some 107) rfl rfl (by kernel_rfl) (by kernel_rfl) (by kernel_rfl) (fun _ _ _ h => h) (Or.inl ⟨by rfl, ?_⟩) (by assumption) ?_
            rotate_left 1
            · (intro w0 hSw; (try dsimp only at hSw); go_simp; try (with_reducible rfl))
            try simp only [Act.put, List.setIfInBounds_toArray, List.set_cons_zero, List.set_cons_succ]
            refine takeAt (i := 26) (v := ?_) (some 108) rfl rfl (by kernel_rfl) (by kernel_rfl) (by kernel_rfl) (fun _ _ _ h => h) (Or.inl ⟨by rfl, ?_⟩) (by assumption) ?_
            rotate_left 1
            · (intro w0 hSw; (try dsimp only at hSw); go_simp; try (with_reducible rfl))
            try simp only [Act.put, List.setIfInBounds_toArray, List.set_cons_zero, List.set_cons_succ]
            refine takeAt (i := 27) (v := ?_) (some 109) rfl rfl (by kernel_rfl) (by kernel_rfl) (by kernel_rfl) (fun _ _ _ h => h) (Or.inl ⟨by rfl, ?_⟩) (by assumption) ?_
            rotate_left 1
            · (intro w0 hSw; (try dsimp only at hSw); go_simp; try (with_reducible rfl))
            try simp only [Act.put, List.setIfInBounds_toArray, List.set_cons_zero, List.set_cons_succ]
            refine takeAt (i := 28) (v := ?_) (some 110) rfl rfl (by kernel_rfl) (by kernel_rfl) (by kernel_rfl) (fun _ _ _ h => h) (Or.inl ⟨by rfl, ?_⟩) (by assumption) ?_
            rotate_left 1
            · (intro w0 hSw; (try dsimp only at hSw); go_simp; try (with_reducible rfl))
            try simp only [Act.put, List.setIfInBounds_toArray, List.set_cons_zero, List.set_cons_succ]
            refine takeAt (i := 29) (v := ?_) (some 111) rfl rfl (by kernel_rfl) (by kernel_rfl) (by kernel_rfl) (fun _ _ _ h => h) (Or.inl ⟨by rfl, ?_⟩) (by assumption) ?_
            rotate_left 1
            · (intro w0 hSw; (try dsimp only at hSw); go_simp; try (with_reducible rfl))
            try simp only [Act.put, List.setIfInBounds_toArray, List.set_cons_zero, List.set_cons_succ]
            refine wpAnyH_ready (rs := [30]) (by kernel_rfl) (by simp) ?_
            refine AllReadyH.cons rfl (fun K hK => ?_) AllReadyH.nil
            go_simp
            refine (l7Is_nil 0 ZA ZC _).mono ?_
            rintro e w7 ⟨rfl, hb7⟩
            have HB7 := Lib.hid (Below.then HBX.out (Below.undrew hb7) HBX.out.size)
            have KEEP1 : w7.cell? ⟨zb, 0, none⟩ = some (.int .i64 0) ∧ w7.cell? ⟨zb, 1, none⟩ = some (.slice ZA 0 ZC) := ⟨(HB7.out.cell (p := ⟨zb, 0, none⟩) hzbW).trans k0, (HB7.out.cell (p := ⟨zb, 1, none⟩) hzbW).trans k1⟩
            clear hb7
            go_wp2_with fail
            refine hK.out _ _ KEEP1 (fun hHeld => ?_)
            clear hK K
            try simp only [Act.put, List.setIfInBounds_toArray, List.set_cons_zero, List.set_cons_succ]
            refine takeAt (i := 31) (v := ?_) (some 113) rfl rfl (by kernel_rfl) (by kernel_rfl) (by kernel_rfl) (fun _ _ _ h => h) (Or.inl ⟨by rfl, ?_⟩) (by assumption) ?_
            rotate_left 1
            · (intro w0 hSw; (try dsimp only at hSw); go_simp; try (with_reducible rfl))
            try simp only [Act.put, List.setIfInBounds_toArray, List.set_cons_zero, List.set_cons_succ]
            refine takeAt (i := 32) (v := ?_) (some 114) rfl rfl (by kernel_rfl) (by kernel_rfl) (by kernel_rfl) (fun _ _ _ h => h) (Or.inl ⟨by rfl, ?_⟩) (by assumption) ?_
            rotate_left 1
            · (intro w0 hSw; (try dsimp only at hSw); go_simp; try (with_reducible rfl))
            try simp only [Act.put, List.setIfInBounds_toArray, List.set_cons_zero, List.set_cons_succ]
            refine takeAt (i := 33) (v := ?_) (some 115) rfl rfl (by kernel_rfl) (by kernel_rfl) (by kernel_rfl) (fun _ _ _ h => h) (Or.inl ⟨by rfl, ?_⟩) (by assumption) ?_
            rotate_left 1
            · (intro w0 hSw; (try dsimp only at hSw); go_simp; try (with_reducible rfl))
            try simp only [Act.put, List.setIfInBounds_toArray, List.set_cons_zero, List.set_cons_succ]
            refine wpAnyH_done (by kernel_rfl) ?_ _
            all_goals
              skip
              have v2 : w7.cell? ⟨w.heap.size, 2, none⟩ = some (.int .i64 oth) := (HB7.out.cell (p := ⟨w.heap.size, 2, none⟩) hzwW).trans c2
              have v0 : w7.cell? ⟨w.heap.size, 0, none⟩ = some (.int .i64 col) := (HB7.out.cell (p := ⟨w.heap.size, 0, none⟩) hzwW).trans c0
              rcases HALL2.out with ⟨hib, rfl, rfl, rfl⟩ | ⟨hib, e2, rfl, rfl⟩
              · have y0 : w7.cell? ⟨vb, 0, none⟩ = some (.int .i64 0) := (HB7.out.cell (p := ⟨vb, 0, none⟩) hvv).trans (HRV.out.cell 0)
                have y1 : w7.cell? ⟨vb, 1, none⟩ = some (.slice VA 0 VC) := (HB7.out.cell (p := ⟨vb, 1, none⟩) hvv).trans (HRV.out.cell 1)
                have hor : oth < 0 ∨ (ar : Int) % 5 ≤ oth := by
                  unfold inBoth at hib
                  simp at hib
                  omega
                clear hib
                by_cases f1 : oth < 0
                · have f1' : decide (oth < 0) = true := by simpa using f1
                  go_wp2_with fail
                  refine (l7Is_nil 0 VA VC w7).mono ?_
                  rintro e w8 ⟨rfl, hb8⟩
                  have HB8 := Lib.hid (Below.then HB7.out hb8 HB7.out.size)
                  clear hb8
                  go_wp2_with fail
                  refine (HEND.out w8 HB8.out).mono ?_
                  rintro e w9 ⟨rfl, hb9⟩
                  go_wp2
                  go_ret
                  exact ⟨rfl, hb9⟩
                · have f1' : decide (oth < 0) = false := by simpa using f1
                  have f2' : decide ((ar : Int) % 5 ≤ oth) = true := by simp; omega
                  go_wp2_with fail
                  refine (l7Is_nil 0 VA VC w7).mono ?_
                  rintro e w8 ⟨rfl, hb8⟩
                  have HB8 := Lib.hid (Below.then HB7.out hb8 HB7.out.size)
                  clear hb8
                  go_wp2_with fail
                  refine (HEND.out w8 HB8.out).mono ?_
                  rintro e w9 ⟨rfl, hb9⟩
                  go_wp2
                  go_ret
                  exact ⟨rfl, hb9⟩
              · subst e2
                have hand := hib
                unfold inBoth at hand
                simp only [Bool.and_eq_true, decide_eq_true_eq] at hand
                have f1' : decide (oth < 0) = false := by simp; omega
                have f2' : decide ((ar : Int) % 5 ≤ oth) = false := by simp; omega
                obtain ⟨c, rfl⟩ := Int.eq_ofNat_of_zero_le (show 0 ≤ col by omega)
                obtain ⟨c', rfl⟩ := Int.eq_ofNat_of_zero_le (show 0 ≤ oth by omega)
                have HRS2 := Lib.hid (fun W (hb : Below W4.heap.size W4 W) => r7SelectSame_any MA MC Y c c' W (HMS.out.upB (Below.then HB4.out hb HB4.out.size)) (by omega) HYO.out (fun x hx => by have := HLEN.out x hx; omega))
                have HVO : Hid (RsOk (sameF Y c c')) := HYO.out.of_mem (sameF_sub Y c c')
                have hvl : (sameF Y c c').length ≤ 40 := by have := List.length_filter_le (fun x => RL.cmpV (x.getD (c : Int).toNat zV) (x.getD (c' : Int).toNat zV) == 0) Y; unfold sameF; omega
                generalize sameF Y c c' = V at *
                have HKY : Hid (∀ W, Below W4.heap.size W4 W → W.cell? ⟨vb, 0, none⟩ = some (.int .i64 ((ar : Int) % 5)) ∧ W.cell? ⟨vb, 1, none⟩ = some (.slice VA V.length VC) ∧ W.cell? ⟨w.heap.size, 0, none⟩ = some (.int .i64 c) ∧ W.cell? ⟨w.heap.size, 2, none⟩ = some (.int .i64 c')) := fun W hb => ⟨(hb.cell (p := ⟨vb, 0, none⟩) hvv).trans (HRV.out.cell 0), (hb.cell (p := ⟨vb, 1, none⟩) hvv).trans (HRV.out.cell 1), (hb.cell (p := ⟨w.heap.size, 0, none⟩) hzwW).trans c0, (hb.cell (p := ⟨w.heap.size, 2, none⟩) hzwW).trans c2⟩
                obtain ⟨y0, y1, -, -⟩ := HKY.out w7 HB7.out
                clear hib hand
                go_wp2_with fail
                go_region_held3 (fun w' => w'.cell? ⟨vb, 0, none⟩ = some (.int .i64 ((ar : Int) % 5)) ∧ w'.cell? ⟨vb, 1, none⟩ = some (.slice VA V.length VC) ∧ w'.cell? ⟨w.heap.size, 0, none⟩ = some (.int .i64 c) ∧ w'.cell? ⟨w.heap.size, 2, none⟩ = some (.int .i64 c')) (first | exact KEEP9 | exact KEEP8 | exact KEEP7 | go_keep)
                  (first
                    | (go_at_call 38; refine (HRS2.out w7.drew HB7.out.drew).mono ?_; rintro e w8 ⟨rv8, rfl, ⟨NA, NC, rfl, -, -, hs8⟩, hb8⟩
                       have HS8 := Lib.hid hs8
                       have HB8 := Lib.hid (Below.then HB7.out (Below.undrew hb8) HB7.out.size)
                       have KEEP7 := HKY.out w8 HB8.out
                       clear hs8 hb8)
                    | (go_at_call 24; refine (l7Is_ok ((ar % 5 : Nat) : Int) VA NA VC NC V w8 (HSV.out.upB HB8.out) HS8.out HVO.out (by omega)).mono ?_; rintro e w9 ⟨rfl, hb9⟩
                       have HB9 := Lib.hid (Below.then HB8.out hb9 HB8.out.size)
                       have KEEP8 := HKY.out w9 HB9.out
                       clear hb9)
                    | (go_at_call 14; refine (l7awake_any w9).mono ?_; rintro e w10 ⟨rfl, hb10⟩
                       have HB10 := Lib.hid (Below.then HB9.out hb10 HB9.out.size)
                       have KEEP9 := HKY.out w10 HB10.out
                       clear hb10)
                    | fail)
                all_goals
                  go_wp2
                  go_ret
                  exact ⟨rfl, Below.then HB2.out (Below.then HB4.out HB10.out HB4.out.size) HB2.out.size⟩
          · have o1' : decide (op < 0) = false := by simpa using o1
            have o2' : decide (5 < op) = true := by simp; omega
            go_wp2_with fail
            refine wp_region_held_drew (S := (fun w' => w'.cell? ⟨zb, 0, none⟩ = some (.int .i64 0) ∧ w'.cell? ⟨zb, 1, none⟩ = some (.slice ZA 0 ZC))) (by kernel_rfl) (by first | exact ⟨k0', k1'⟩ | exact ⟨k0, k1⟩) (fun hHeld => ?_)
            refine takeAt (i := 0) (v := ?_) (some 82) rfl rfl (by kernel_rfl) (by kernel_rfl) (by kernel_rfl) (fun _ _ _ h => h) (Or.inl ⟨by rfl, ?_⟩) (by assumption) ?_
            rotate_left 1
            · (intro w0 hSw; (try dsimp only at hSw); go_simp; try (with_reducible rfl))
            try simp only [Act.put, List.setIfInBounds_toArray, List.set_cons_zero, List.set_cons_succ]
            refine takeAt (i := 1) (v := ?_) (some 83) rfl rfl (by kernel_rfl) (by kernel_rfl) (by kernel_rfl) (fun _ _ _ h => h) (Or.inl ⟨by rfl, ?_⟩) (by assumption) ?_
            rotate_left 1
            · (intro w0 hSw; (try dsimp only at hSw); go_simp; try (with_reducible rfl))
            try simp only [Act.put, List.setIfInBounds_toArray, List.set_cons_zero, List.set_cons_succ]
            refine takeAt (i := 2) (v := ?_) (some 84) rfl rfl (by kernel_rfl) (by kernel_rfl) (by kernel_rfl) (fun _ _ _ h => h) (Or.inl ⟨by rfl, ?_⟩) (by assumption) ?_
            rotate_left 1
            · (intro w0 hSw; (try dsimp only at hSw); go_simp; try (with_reducible rfl))
            try simp only [Act.put, List.setIfInBounds_toArray, List.set_cons_zero, List.set_cons_succ]
            refine takeAt (i := 3) (v := ?_) (some 85) rfl rfl (by kernel_rfl) (by kernel_rfl) (by kernel_rfl) (fun _ _ _ h => h) (Or.inl ⟨by rfl, ?_⟩) (by assumption) ?_
            rotate_left 1
            · (intro w0 hSw; (try dsimp only at hSw); go_simp; try (with_reducible rfl))
            try simp only [Act.put, List.setIfInBounds_toArray, List.set_cons_zero, List.set_cons_succ]
            refine takeAt (i := 4) (v := ?_) (some 86) rfl rfl (by kernel_rfl) (by kernel_rfl) (by kernel_rfl) (fun _ _ _ h => h) (Or.inl ⟨by rfl, ?_⟩) (by assumption) ?_
            rotate_left 1
            · (intro w0 hSw; (try dsimp only at hSw); go_simp; try (with_reducible rfl))
            try simp only [Act.put, List.setIfInBounds_toArray, List.set_cons_zero, List.set_cons_succ]
            refine takeAt (i := 5) (v := ?_) (some 87) rfl rfl (by kernel_rfl) (by kernel_rfl) (by kernel_rfl) (fun _ _ _ h => h) (Or.inl ⟨by rfl, ?_⟩) (by assumption) ?_
            rotate_left 1
            · (intro w0 hSw; (try dsimp only at hSw); go_simp; try (with_reducible rfl))
            try simp only [Act.put, List.setIfInBounds_toArray, List.set_cons_zero, List.set_cons_succ]
            refine takeAt (i := 6) (v := ?_) (some 88) rfl rfl (by kernel_rfl) (by kernel_rfl) (by kernel_rfl) (fun _ _ _ h => h) (Or.inl ⟨by rfl, ?_⟩) (by assumption) ?_
            rotate_left 1
            · (intro w0 hSw; (try dsimp only at hSw); go_simp; try (with_reducible rfl))
            try simp only [Act.put, List.setIfInBounds_toArray, List.set_cons_zero, List.set_cons_succ]
            refine takeAt (i := 7) (v := ?_) (some 89) rfl rfl (by kernel_rfl) (by kernel_rfl) (by kernel_rfl) (fun _ _ _ h => h) (Or.inl ⟨by rfl, ?_⟩) (by assumption) ?_
            rotate_left 1
            · (intro w0 hSw; (try dsimp only at hSw); go_simp; try (with_reducible rfl))
            try simp only [Act.put, List.setIfInBounds_toArray, List.set_cons_zero, List.set_cons_succ]
            refine takeAt (i := 8) (v := ?_) (some 90) rfl rfl (by kernel_rfl) (by kernel_rfl) (by kernel_rfl) (fun _ _ _ h => h) (Or.inl ⟨by rfl, ?_⟩) (by assumption) ?_
            rotate_left 1
            · (intro w0 hSw; (try dsimp only at hSw); go_simp; try (with_reducible rfl))
            try simp only [Act.put, List.setIfInBounds_toArray, List.set_cons_zero, List.set_cons_succ]
            refine takeAt (i := 9) (v := ?_) (some 91) rfl rfl (by kernel_rfl) (by kernel_rfl) (by kernel_rfl) (fun _ _ _ h => h) (Or.inl ⟨by rfl, ?_⟩) (by assumption) ?_
            rotate_left 1
            · (intro w0 hSw; (try dsimp only at hSw); go_simp; try (with_reducible rfl))
            try simp only [Act.put, List.setIfInBounds_toArray, List.set_cons_zero, List.set_cons_succ]
            refine takeAt (i := 10) (v := ?_) (some 92) rfl rfl (by kernel_rfl) (by kernel_rfl) (by kernel_rfl) (fun _ _ _ h => h) (Or.inl ⟨by rfl, ?_⟩) (by assumption) ?_
            rotate_left 1
            · (intro w0 hSw; (try dsimp only at hSw); go_simp; try (with_reducible rfl))
            try simp only [Act.put, List.setIfInBounds_toArray, List.set_cons_zero, List.set_cons_succ]
            refine takeAt (i := 11) (v := undef) (some 93) rfl rfl (by kernel_rfl) (by kernel_rfl) (by kernel_rfl) (fun _ _ _ h => h) (Or.inr ⟨by rfl, rfl⟩) (by assumption) ?_
            try simp only [Act.put, List.setIfInBounds_toArray, List.set_cons_zero, List.set_cons_succ]
            refine takeAt (i := 12) (v := undef) (some 94) rfl rfl (by kernel_rfl) (by kernel_rfl) (by kernel_rfl) (fun _ _ _ h => h) (Or.inr ⟨by rfl, rfl⟩) (by assumption) ?_
            try simp only [Act.put, List.setIfInBounds_toArray, List.set_cons_zero, List.set_cons_succ]
            refine takeAt (i := 13) (v := undef) (some 95) rfl rfl (by kernel_rfl) (by kernel_rfl) (by kernel_rfl) (fun _ _ _ h => h) (Or.inr ⟨by rfl, rfl⟩) (by assumption) ?_
            try simp only [Act.put, List.setIfInBounds_toArray, List.set_cons_zero, List.set_cons_succ]
            refine takeAt (i := 14) (v := undef) (some 96) rfl rfl (by kernel_rfl) (by kernel_rfl) (by kernel_rfl) (fun _ _ _ h => h) (Or.inr ⟨by rfl, rfl⟩) (by assumption) ?_
            try simp only [Act.put, List.setIfInBounds_toArray, List.set_cons_zero, List.set_cons_succ]
            refine takeAt (i := 15) (v := undef) (some 97) rfl rfl (by kernel_rfl) (by kernel_rfl) (by kernel_rfl) (fun _ _ _ h => h) (Or.inr ⟨by rfl, rfl⟩) (by assumption) ?_
            try simp only [Act.put, List.setIfInBounds_toArray, List.set_cons_zero, List.set_cons_succ]
            refine takeAt (i := 16) (v := undef) (some 98) rfl rfl (by kernel_rfl) (by kernel_rfl) (by kernel_rfl) (fun _ _ _ h => h) (Or.inr ⟨by rfl, rfl⟩) (by assumption) ?_
            try simp only [Act.put, List.setIfInBounds_toArray, List.set_cons_zero, List.set_cons_succ]
            refine takeAt (i := 17) (v := undef) (some 99) rfl rfl (by kernel_rfl) (by kernel_rfl) (by kernel_rfl) (fun _ _ _ h => h) (Or.inr ⟨by rfl, rfl⟩) (by assumption) ?_
            try simp only [Act.put, List.setIfInBounds_toArray, List.set_cons_zero, List.set_cons_succ]
            refine takeAt (i := 18) (v := undef) (some 100) rfl rfl (by kernel_rfl) (by kernel_rfl) (by kernel_rfl) (fun _ _ _ h => h) (Or.inr ⟨by rfl, rfl⟩) (by assumption) ?_
            try simp only [Act.put, List.setIfInBounds_toArray, List.set_cons_zero, List.set_cons_succ]
            refine takeAt (i := 19) (v := undef) (some 101) rfl rfl (by kernel_rfl) (by kernel_rfl) (by kernel_rfl) (fun _ _ _ h => h) (Or.inr ⟨by rfl, rfl⟩) (by assumption) ?_
            try simp only [Act.put, List.setIfInBounds_toArray, List.set_cons_zero, List.set_cons_succ]
            refine takeAt (i := 20) (v := undef) (some 102) rfl rfl (by kernel_rfl) (by kernel_rfl) (by kernel_rfl) (fun _ _ _ h => h) (Or.inr ⟨by rfl, rfl⟩) (by assumption) ?_
            try simp only [Act.put, List.setIfInBounds_toArray, List.set_cons_zero, List.set_cons_succ]
            refine takeAt (i := 21) (v := undef) (some 103) rfl rfl (by kernel_rfl) (by kernel_rfl) (by kernel_rfl) (fun _ _ _ h => h) (Or.inr ⟨by rfl, rfl⟩) (by assumption) ?_
            try simp only [Act.put, List.setIfInBounds_toArray, List.set_cons_zero, List.set_cons_succ]
            refine takeAt (i := 22) (v := undef) (some 104) rfl rfl (by kernel_rfl) (by kernel_rfl) (by kernel_rfl) (fun _ _ _ h => h) (Or.inr ⟨by rfl, rfl⟩) (by assumption) ?_
            try simp only [Act.put, List.setIfInBounds_toArray, List.set_cons_zero, List.set_cons_succ]
            refine takeAt (i := 23) (v := ?_) (some 105) rfl rfl (by kernel_rfl) (by kernel_rfl) (by kernel_rfl) (fun _ _ _ h => h) (Or.inl ⟨by rfl, ?_⟩) (by assumption) ?_
            rotate_left 1
            · (intro w0 hSw; (try dsimp only at hSw); go_simp; try (with_reducible rfl))
            try simp only [Act.put, List.setIfInBounds_toArray, List.set_cons_zero, List.set_cons_succ]
            refine takeAt (i := 24) (v := ?_) (some 106) rfl rfl (by kernel_rfl) (by kernel_rfl) (by kernel_rfl) (fun _ _ _ h => h) (Or.inl ⟨by rfl, ?_⟩) (by assumption) ?_
            rotate_left 1
            · (intro w0 hSw; (try dsimp only at hSw); go_simp; try (with_reducible rfl))
            try simp only [Act.put, List.setIfInBounds_toArray, List.set_cons_zero, List.set_cons_succ]
            refine takeAt (i := 25) (v := ?_) (some 107) rfl rfl (by kernel_rfl) (by kernel_rfl) (by kernel_rfl) (fun _ _ _ h => h) (Or.inl ⟨by rfl, ?_⟩) (by assumption) ?_
            rotate_left 1
            · (intro w0 hSw; (try dsimp only at hSw); go_simp; try (with_reducible rfl))
            try simp only [Act.put, List.setIfInBounds_toArray, List.set_cons_zero, List.set_cons_succ]
            refine takeAt (i := 26) (v := ?_) (some 108) rfl rfl (by kernel_rfl) (by kernel_rfl) (by kernel_rfl) (fun _ _ _ h => h) (Or.inl ⟨by rfl, ?_⟩) (by assumption) ?_
            rotate_left 1
            · (intro w0 hSw; (try dsimp only at hSw); go_simp; try (with_reducible rfl))
            try simp only [Act.put, List.setIfInBounds_toArray, List.set_cons_zero, List.set_cons_succ]
            refine takeAt (i := 27) (v := ?_) (some 109) rfl rfl (by kernel_rfl) (by kernel_rfl) (by kernel_rfl) (fun _ _ _ h => h) (Or.inl ⟨by rfl, ?_⟩) (by assumption) ?_
            rotate_left 1
            · (intro w0 hSw; (try dsimp only at hSw); go_simp; try (with_reducible rfl))
            try simp only [Act.put, List.setIfInBounds_toArray, List.set_cons_zero, List.set_cons_succ]
            refine takeAt (i := 28) (v := ?_) (some 110) rfl rfl (by kernel_rfl) (by kernel_rfl) (by kernel_rfl) (fun _ _ _ h => h) (Or.inl ⟨by rfl, ?_⟩) (by assumption) ?_
            rotate_left 1
            · (intro w0 hSw; (try dsimp only at hSw); go_simp; try (with_reducible rfl))
            try simp only [Act.put, List.setIfInBounds_toArray, List.set_cons_zero, List.set_cons_succ]
            refine takeAt (i := 29) (v := ?_) (some 111) rfl rfl (by kernel_rfl) (by kernel_rfl) (by kernel_rfl) (fun _ _ _ h => h) (Or.inl ⟨by rfl, ?_⟩) (by assumption) ?_
            rotate_left 1
            · (intro w0 hSw; (try dsimp only at hSw); go_simp; try (with_reducible rfl))
            try simp only [Act.put, List.setIfInBounds_toArray, List.set_cons_zero, List.set_cons_succ]
            refine wpAnyH_ready (rs := [30]) (by kernel_rfl) (by simp) ?_
            refine AllReadyH.cons rfl (fun K hK => ?_) AllReadyH.nil
            go_simp
            refine (l7Is_nil 0 ZA ZC _).mono ?_
            rintro e w7 ⟨rfl, hb7⟩
            have HB7 := Lib.hid (Below.then HBX.out (Below.undrew hb7) HBX.out.size)
            have KEEP1 : w7.cell? ⟨zb, 0, none⟩ = some (.int .i64 0) ∧ w7.cell? ⟨zb, 1, none⟩ = some (.slice ZA 0 ZC) := ⟨(HB7.out.cell (p := ⟨zb, 0, none⟩) hzbW).trans k0, (HB7.out.cell (p := ⟨zb, 1, none⟩) hzbW).trans k1⟩
            clear hb7
            go_wp2_with fail
            refine hK.out _ _ KEEP1 (fun hHeld => ?_)
            clear hK K
            try simp only [Act.put, List.setIfInBounds_toArray, List.set_cons_zero, List.set_cons_succ]
            refine takeAt (i := 31) (v := ?_) (some 113) rfl rfl (by kernel_rfl) (by kernel_rfl) (by kernel_rfl) (fun _ _ _ h => h) (Or.inl ⟨by rfl, ?_⟩) (by assumption) ?_
            rotate_left 1
            · (intro w0 hSw; (try dsimp only at hSw); go_simp; try (with_reducible rfl))
            try simp only [Act.put, List.setIfInBounds_toArray, List.set_cons_zero, List.set_cons_succ]
            refine takeAt (i := 32) (v := ?_) (some 114) rfl rfl (by kernel_rfl) (by kernel_rfl) (by kernel_rfl) (fun _ _ _ h => h) (Or.inl ⟨by rfl, ?_⟩) (by assumption) ?_
            rotate_left 1
            · (intro w0 hSw; (try dsimp only at hSw); go_simp; try (with_reducible rfl))
            try simp only [Act.put, List.setIfInBounds_toArray, List.set_cons_zero, List.set_cons_succ]
            refine takeAt (i := 33) (v := ?_) (some 115) rfl rfl (by kernel_rfl) (by kernel_rfl) (by kernel_rfl) (fun _ _ _ h => h) (Or.inl ⟨by rfl, ?_⟩) (by assumption) ?_
            rotate_left 1
            · (intro w0 hSw; (try dsimp only at hSw); go_simp; try (with_reducible rfl))
            try simp only [Act.put, List.setIfInBounds_toArray, List.set_cons_zero, List.set_cons_succ]
            refine wpAnyH_done (by kernel_rfl) ?_ _
            all_goals
              skip
              have v2 : w7.cell? ⟨w.heap.size, 2, none⟩ = some (.int .i64 oth) := (HB7.out.cell (p := ⟨w.heap.size, 2, none⟩) hzwW).trans c2
              have v0 : w7.cell? ⟨w.heap.size, 0, none⟩ = some (.int .i64 col) := (HB7.out.cell (p := ⟨w.heap.size, 0, none⟩) hzwW).trans c0
              rcases HALL2.out with ⟨hib, rfl, rfl, rfl⟩ | ⟨hib, e2, rfl, rfl⟩
              · have y0 : w7.cell? ⟨vb, 0, none⟩ = some (.int .i64 0) := (HB7.out.cell (p := ⟨vb, 0, none⟩) hvv).trans (HRV.out.cell 0)
                have y1 : w7.cell? ⟨vb, 1, none⟩ = some (.slice VA 0 VC) := (HB7.out.cell (p := ⟨vb, 1, none⟩) hvv).trans (HRV.out.cell 1)
                have hor : oth < 0 ∨ (ar : Int) % 5 ≤ oth := by
                  unfold inBoth at hib
                  simp at hib
                  omega
                clear hib
                by_cases f1 : oth < 0
                · have f1' : decide (oth < 0) = true := by simpa using f1
                  go_wp2_with fail
                  refine (l7Is_nil 0 VA VC w7).mono ?_
                  rintro e w8 ⟨rfl, hb8⟩
                  have HB8 := Lib.hid (Below.then HB7.out hb8 HB7.out.size)
                  clear hb8
                  go_wp2_with fail
                  refine (HEND.out w8 HB8.out).mono ?_
                  rintro e w9 ⟨rfl, hb9⟩
                  go_wp2
                  go_ret
                  exact ⟨rfl, hb9⟩
                · have f1' : decide (oth < 0) = false := by simpa using f1
                  have f2' : decide ((ar : Int) % 5 ≤ oth) = true := by simp; omega
                  go_wp2_with fail
                  refine (l7Is_nil 0 VA VC w7).mono ?_
                  rintro e w8 ⟨rfl, hb8⟩
                  have HB8 := Lib.hid (Below.then HB7.out hb8 HB7.out.size)
                  clear hb8
                  go_wp2_with fail
                  refine (HEND.out w8 HB8.out).mono ?_
                  rintro e w9 ⟨rfl, hb9⟩
                  go_wp2
                  go_ret
                  exact ⟨rfl, hb9⟩
              · subst e2
                have hand := hib
                unfold inBoth at hand
                simp only [Bool.and_eq_true, decide_eq_true_eq] at hand
                have f1' : decide (oth < 0) = false := by simp; omega
                have f2' : decide ((ar : Int) % 5 ≤ oth) = false := by simp; omega
                obtain ⟨c, rfl⟩ := Int.eq_ofNat_of_zero_le (show 0 ≤ col by omega)
                obtain ⟨c', rfl⟩ := Int.eq_ofNat_of_zero_le (show 0 ≤ oth by omega)
                have HRS2 := Lib.hid (fun W (hb : Below W4.heap.size W4 W) => r7SelectSame_any MA MC Y c c' W (HMS.out.upB (Below.then HB4.out hb HB4.out.size)) (by omega) HYO.out (fun x hx => by have := HLEN.out x hx; omega))
                have HVO : Hid (RsOk (sameF Y c c')) := HYO.out.of_mem (sameF_sub Y c c')
                have hvl : (sameF Y c c').length ≤ 40 := by have := List.length_filter_le (fun x => RL.cmpV (x.getD (c : Int).toNat zV) (x.getD (c' : Int).toNat zV) == 0) Y; unfold sameF; omega
                generalize sameF Y c c' = V at *
                have HKY : Hid (∀ W, Below W4.heap.size W4 W → W.cell? ⟨vb, 0, none⟩ = some (.int .i64 ((ar : Int) % 5)) ∧ W.cell? ⟨vb, 1, none⟩ = some (.slice VA V.length VC) ∧ W.cell? ⟨w.heap.size, 0, none⟩ = some (.int .i64 c) ∧ W.cell? ⟨w.heap.size, 2, none⟩ = some (.int .i64 c')) := fun W hb => ⟨(hb.cell (p := ⟨vb, 0, none⟩) hvv).trans (HRV.out.cell 0), (hb.cell (p := ⟨vb, 1, none⟩) hvv).trans (HRV.out.cell 1), (hb.cell (p := ⟨w.heap.size, 0, none⟩) hzwW).trans c0, (hb.cell (p := ⟨w.heap.size, 2, none⟩) hzwW).trans c2⟩
                obtain ⟨y0, y1, -, -⟩ := HKY.out w7 HB7.out
                clear hib hand
                go_wp2_with fail
                go_region_held3 (fun w' => w'.cell? ⟨vb, 0, none⟩ = some (.int .i64 ((ar : Int) % 5)) ∧ w'.cell? ⟨vb, 1, none⟩ = some (.slice VA V.length VC) ∧ w'.cell? ⟨w.heap.size, 0, none⟩ = some (.int .i64 c) ∧ w'.cell? ⟨w.heap.size, 2, none⟩ = some (.int .i64 c')) (first | exact KEEP9 | exact KEEP8 | exact KEEP7 | go_keep)
                  (first
                    | (go_at_call 38; refine (HRS2.out w7.drew HB7.out.drew).mono ?_; rintro e w8 ⟨rv8, rfl, ⟨NA, NC, rfl, -, -, hs8⟩, hb8⟩
                       have HS8 := Lib.hid hs8
                       have HB8 := Lib.hid (Below.then HB7.out (Below.undrew hb8) HB7.out.size)
                       have KEEP7 := HKY.out w8 HB8.out
                       clear hs8 hb8)
                    | (go_at_call 24; refine (l7Is_ok ((ar % 5 : Nat) : Int) VA NA VC NC V w8 (HSV.out.upB HB8.out) HS8.out HVO.out (by omega)).mono ?_; rintro e w9 ⟨rfl, hb9⟩
                       have HB9 := Lib.hid (Below.then HB8.out hb9 HB8.out.size)
                       have KEEP8 := HKY.out w9 HB9.out
                       clear hb9)
                    | (go_at_call 14; refine (l7awake_any w9).mono ?_; rintro e w10 ⟨rfl, hb10⟩
                       have HB10 := Lib.hid (Below.then HB9.out hb10 HB9.out.size)
                       have KEEP9 := HKY.out w10 HB10.out
                       clear hb10)
                    | fail)
                all_goals
                  go_wp2
                  go_ret
                  exact ⟨rfl, Below.then HB2.out (Below.then HB4.out HB10.out HB4.out.size) HB2.out.size⟩
        · rw [if_neg ho] at he
          have o1' : decide (op < 0) = false := by simp; omega
          have o2' : decide (5 < op) = false := by simp; omega
          go_wp2_with fail
          refine (r1Valid_any v W4 hvs).mono ?_
          rintro e w6 ⟨rfl, hx6⟩
          have HBX := Lib.hid hx6.below
          clear hx6
          cases hv : RL.validV v
          · rw [hv] at he
            simp only [if_neg, Bool.false_eq_true, if_false] at he
            obtain ⟨rfl, ⟨-, rfl, rfl⟩ | ⟨h0, -⟩⟩ := HALL.out
            rotate_left
            · omega
            rw [he]
            clear he hv
            have k0 : W4.cell? ⟨zb, 0, none⟩ = some (.int .i64 0) := HRZ4.out.cell 0
            have k1 : W4.cell? ⟨zb, 1, none⟩ = some (.slice ZA 0 ZC) := HRZ4.out.cell 1
            have k0' : w6.cell? ⟨zb, 0, none⟩ = some (.int .i64 0) := (HBX.out.cell (p := ⟨zb, 0, none⟩) hzbW).trans k0
            have k1' : w6.cell? ⟨zb, 1, none⟩ = some (.slice ZA 0 ZC) := (HBX.out.cell (p := ⟨zb, 1, none⟩) hzbW).trans k1
            go_wp2_with fail
            refine wp_region_held_drew (S := (fun w' => w'.cell? ⟨zb, 0, none⟩ = some (.int .i64 0) ∧ w'.cell? ⟨zb, 1, none⟩ = some (.slice ZA 0 ZC))) (by kernel_rfl) (by first | exact ⟨k0', k1'⟩ | exact ⟨k0, k1⟩) (fun hHeld => ?_)
            refine takeAt (i := 0) (v := ?_) (some 82) rfl rfl (by kernel_rfl) (by kernel_rfl) (by kernel_rfl) (fun _ _ _ h => h) (Or.inl ⟨by rfl, ?_⟩) (by assumption) ?_
            rotate_left 1
            · (intro w0 hSw; (try dsimp only at hSw); go_simp; try (with_reducible rfl))
            try simp only [Act.put, List.setIfInBounds_toArray, List.set_cons_zero, List.set_cons_succ]
            refine takeAt (i := 1) (v := ?_) (some 83) rfl rfl (by kernel_rfl) (by kernel_rfl) (by kernel_rfl) (fun _ _ _ h => h) (Or.inl ⟨by rfl, ?_⟩) (by assumption) ?_
            rotate_left 1
            · (intro w0 hSw; (try dsimp only at hSw); go_simp; try (with_reducible rfl))
            try simp only [Act.put, List.setIfInBounds_toArray, List.set_cons_zero, List.set_cons_succ]
            refine takeAt (i := 2) (v := ?_) (some 84) rfl rfl (by kernel_rfl) (by kernel_rfl) (by kernel_rfl) (fun _ _ _ h => h) (Or.inl ⟨by rfl, ?_⟩) (by assumption) ?_
            rotate_left 1
            · (intro w0 hSw; (try dsimp only at hSw); go_simp; try (with_reducible rfl))
            try simp only [Act.put, List.setIfInBounds_toArray, List.set_cons_zero, List.set_cons_succ]
            refine takeAt (i := 3) (v := ?_) (some 85) rfl rfl (by kernel_rfl) (by kernel_rfl) (by kernel_rfl) (fun _ _ _ h => h) (Or.inl ⟨by rfl, ?_⟩) (by assumption) ?_
            rotate_left 1
            · (intro w0 hSw; (try dsimp only at hSw); go_simp; try (with_reducible rfl))
            try simp only [Act.put, List.setIfInBounds_toArray, List.set_cons_zero, List.set_cons_succ]
            refine takeAt (i := 4) (v := ?_) (some 86) rfl rfl (by kernel_rfl) (by kernel_rfl) (by kernel_rfl) (fun _ _ _ h => h) (Or.inl ⟨by rfl, ?_⟩) (by assumption) ?_
            rotate_left 1
            · (intro w0 hSw; (try dsimp only at hSw); go_simp; try (with_reducible rfl))
            try simp only [Act.put, List.setIfInBounds_toArray, List.set_cons_zero, List.set_cons_succ]
            refine takeAt (i := 5) (v := ?_) (some 87) rfl rfl (by kernel_rfl) (by kernel_rfl) (by kernel_rfl) (fun _ _ _ h => h) (Or.inl ⟨by rfl, ?_⟩) (by assumption) ?_
            rotate_left 1
            · (intro w0 hSw; (try dsimp only at hSw); go_simp; try (with_reducible rfl))
            try simp only [Act.put, List.setIfInBounds_toArray, List.set_cons_zero, List.set_cons_succ]
            refine takeAt (i := 6) (v := ?_) (some 88) rfl rfl (by kernel_rfl) (by kernel_rfl) (by kernel_rfl) (fun _ _ _ h => h) (Or.inl ⟨by rfl, ?_⟩) (by assumption) ?_
            rotate_left 1
            · (intro w0 hSw; (try dsimp only at hSw); go_simp; try (with_reducible rfl))
            try simp only [Act.put, List.setIfInBounds_toArray, List.set_cons_zero, List.set_cons_succ]
            refine takeAt (i := 7) (v := ?_) (some 89) rfl rfl (by kernel_rfl) (by kernel_rfl) (by kernel_rfl) (fun _ _ _ h => h) (Or.inl ⟨by rfl, ?_⟩) (by assumption) ?_
            rotate_left 1
            · (intro w0 hSw; (try dsimp only at hSw); go_simp; try (with_reducible rfl))
            try simp only [Act.put, List.setIfInBounds_toArray, List.set_cons_zero, List.set_cons_succ]
            refine takeAt (i := 8) (v := ?_) (some 90) rfl rfl (by kernel_rfl) (by kernel_rfl) (by kernel_rfl) (fun _ _ _ h => h) (Or.inl ⟨by rfl, ?_⟩) (by assumption) ?_
            rotate_left 1
            · (intro w0 hSw; (try dsimp only at hSw); go_simp; try (with_reducible rfl))
            try simp only [Act.put, List.setIfInBounds_toArray, List.set_cons_zero, List.set_cons_succ]
            refine takeAt (i := 9) (v := ?_) (some 91) rfl rfl (by kernel_rfl) (by kernel_rfl) (by kernel_rfl) (fun _ _ _ h => h) (Or.inl ⟨by rfl, ?_⟩) (by assumption) ?_
            rotate_left 1
            · (intro w0 hSw; (try dsimp only at hSw); go_simp; try (with_reducible rfl))
            try simp only [Act.put, List.setIfInBounds_toArray, List.set_cons_zero, List.set_cons_succ]
            refine takeAt (i := 10) (v := ?_) (some 92) rfl rfl (by kernel_rfl) (by kernel_rfl) (by kernel_rfl) (fun _ _ _ h => h) (Or.inl ⟨by rfl, ?_⟩) (by assumption) ?_
            rotate_left 1
            · (intro w0 hSw; (try dsimp only at hSw); go_simp; try (with_reducible rfl))
            try simp only [Act.put, List.setIfInBounds_toArray, List.set_cons_zero, List.set_cons_succ]
            refine takeAt (i := 11) (v := undef) (some 93) rfl rfl (by kernel_rfl) (by kernel_rfl) (by kernel_rfl) (fun _ _ _ h => h) (Or.inr ⟨by rfl, rfl⟩) (by assumption) ?_
            try simp only [Act.put, List.setIfInBounds_toArray, List.set_cons_zero, List.set_cons_succ]
            refine takeAt (i := 12) (v := undef) (some 94) rfl rfl (by kernel_rfl) (by kernel_rfl) (by kernel_rfl) (fun _ _ _ h => h) (Or.inr ⟨by rfl, rfl⟩) (by assumption) ?_
            try simp only [Act.put, List.setIfInBounds_toArray, List.set_cons_zero, List.set_cons_succ]
            refine takeAt (i := 13) (v := undef) (some 95) rfl rfl (by kernel_rfl) (by kernel_rfl) (by kernel_rfl) (fun _ _ _ h => h) (Or.inr ⟨by rfl, rfl⟩) (by assumption) ?_
            try simp only [Act.put, List.setIfInBounds_toArray, List.set_cons_zero, List.set_cons_succ]
            refine takeAt (i := 14) (v := undef) (some 96) rfl rfl (by kernel_rfl) (by kernel_rfl) (by kernel_rfl) (fun _ _ _ h => h) (Or.inr ⟨by rfl, rfl⟩) (by assumption) ?_
            try simp only [Act.put, List.setIfInBounds_toArray, List.set_cons_zero, List.set_cons_succ]
            refine takeAt (i := 15) (v := undef) (some 97) rfl rfl (by kernel_rfl) (by kernel_rfl) (by kernel_rfl) (fun _ _ _ h => h) (Or.inr ⟨by rfl, rfl⟩) (by assumption) ?_
            try simp only [Act.put, List.setIfInBounds_toArray, List.set_cons_zero, List.set_cons_succ]
            refine takeAt (i := 16) (v := undef) (some 98) rfl rfl (by kernel_rfl) (by kernel_rfl) (by kernel_rfl) (fun _ _ _ h => h) (Or.inr ⟨by rfl, rfl⟩) (by assumption) ?_
            try simp only [Act.put, List.setIfInBounds_toArray, List.set_cons_zero, List.set_cons_succ]
            refine takeAt (i := 17) (v := undef) (some 99) rfl rfl (by kernel_rfl) (by kernel_rfl) (by kernel_rfl) (fun _ _ _ h => h) (Or.inr ⟨by rfl, rfl⟩) (by assumption) ?_
            try simp only [Act.put, List.setIfInBounds_toArray, List.set_cons_zero, List.set_cons_succ]
            refine takeAt (i := 18) (v := undef) (some 100) rfl rfl (by kernel_rfl) (by kernel_rfl) (by kernel_rfl) (fun _ _ _ h => h) (Or.inr ⟨by rfl, rfl⟩) (by assumption) ?_
            try simp only [Act.put, List.setIfInBounds_toArray, List.set_cons_zero, List.set_cons_succ]
            refine takeAt (i := 19) (v := undef) (some 101) rfl rfl (by kernel_rfl) (by kernel_rfl) (by kernel_rfl) (fun _ _ _ h => h) (Or.inr ⟨by rfl, rfl⟩) (by assumption) ?_
            try simp only [Act.put, List.setIfInBounds_toArray, List.set_cons_zero, List.set_cons_succ]
            refine takeAt (i := 20) (v := undef) (some 102) rfl rfl (by kernel_rfl) (by kernel_rfl) (by kernel_rfl) (fun _ _ _ h => h) (Or.inr ⟨by rfl, rfl⟩) (by assumption) ?_
            try simp only [Act.put, List.setIfInBounds_toArray, List.set_cons_zero, List.set_cons_succ]
            refine takeAt (i := 21) (v := undef) (some 103) rfl rfl (by kernel_rfl) (by kernel_rfl) (by kernel_rfl) (fun _ _ _ h => h) (Or.inr ⟨by rfl, rfl⟩) (by assumption) ?_
            try simp only [Act.put, List.setIfInBounds_toArray, List.set_cons_zero, List.set_cons_succ]
            refine takeAt (i := 22) (v := undef) (some 104) rfl rfl (by kernel_rfl) (by kernel_rfl) (by kernel_rfl) (fun _ _ _ h => h) (Or.inr ⟨by rfl, rfl⟩) (by assumption) ?_
            try simp only [Act.put, List.setIfInBounds_toArray, List.set_cons_zero, List.set_cons_succ]
            refine takeAt (i := 23) (v := ?_) (some 105) rfl rfl (by kernel_rfl) (by kernel_rfl) (by kernel_rfl) (fun _ _ _ h => h) (Or.inl ⟨by rfl, ?_⟩) (by assumption) ?_
            rotate_left 1
            · (intro w0 hSw; (try dsimp only at hSw); go_simp; try (with_reducible rfl))
            try simp only [Act.put, List.setIfInBounds_toArray, List.set_cons_zero, List.set_cons_succ]
            refine takeAt (i := 24) (v := ?_) (some 106) rfl rfl (by kernel_rfl) (by kernel_rfl) (by kernel_rfl) (fun _ _ _ h => h) (Or.inl ⟨by rfl, ?_⟩) (by assumption) ?_
            rotate_left 1
            · (intro w0 hSw; (try dsimp only at hSw); go_simp; try (with_reducible rfl))
            try simp only [Act.put, List.setIfInBounds_toArray, List.set_cons_zero, List.set_cons_succ]
            refine takeAt (i := 25) (v := ?_) (some 107) rfl rfl (by kernel_rfl) (by kernel_rfl) (by kernel_rfl) (fun _ _ _ h => h) (Or.inl ⟨by rfl, ?_⟩) (by assumption) ?_
            rotate_left 1
            · (intro w0 hSw; (try dsimp only at hSw); go_simp; try (with_reducible rfl))
            try simp only [Act.put, List.setIfInBounds_toArray, List.set_cons_zero, List.set_cons_succ]
            refine takeAt (i := 26) (v := ?_) (some 108) rfl rfl (by kernel_rfl) (by kernel_rfl) (by kernel_rfl) (fun _ _ _ h => h) (Or.inl ⟨by rfl, ?_⟩) (by assumption) ?_
            rotate_left 1
            · (intro w0 hSw; (try dsimp only at hSw); go_simp; try (with_reducible rfl))
            try simp only [Act.put, List.setIfInBounds_toArray, List.set_cons_zero, List.set_cons_succ]
            refine takeAt (i := 27) (v := ?_) (some 109) rfl rfl (by kernel_rfl) (by kernel_rfl) (by kernel_rfl) (fun _ _ _ h => h) (Or.inl ⟨by rfl, ?_⟩) (by assumption) ?_
            rotate_left 1
            · (intro w0 hSw; (try dsimp only at hSw); go_simp; try (with_reducible rfl))
            try simp only [Act.put, List.setIfInBounds_toArray, List.set_cons_zero, List.set_cons_succ]
            refine takeAt (i := 28) (v := ?_) (some 110) rfl rfl (by kernel_rfl) (by kernel_rfl) (by kernel_rfl) (fun _ _ _ h => h) (Or.inl ⟨by rfl, ?_⟩) (by assumption) ?_
            rotate_left 1
            · (intro w0 hSw; (try dsimp only at hSw); go_simp; try (with_reducible rfl))
            try simp only [Act.put, List.setIfInBounds_toArray, List.set_cons_zero, List.set_cons_succ]
            refine takeAt (i := 29) (v := ?_) (some 111) rfl rfl (by kernel_rfl) (by kernel_rfl) (by kernel_rfl) (fun _ _ _ h => h) (Or.inl ⟨by rfl, ?_⟩) (by assumption) ?_
            rotate_left 1
            · (intro w0 hSw; (try dsimp only at hSw); go_simp; try (with_reducible rfl))
            try simp only [Act.put, List.setIfInBounds_toArray, List.set_cons_zero, List.set_cons_succ]
            refine wpAnyH_ready (rs := [30]) (by kernel_rfl) (by simp) ?_
            refine AllReadyH.cons rfl (fun K hK => ?_) AllReadyH.nil
            go_simp
            refine (l7Is_nil 0 ZA ZC _).mono ?_
            rintro e w7 ⟨rfl, hb7⟩
            have HB7 := Lib.hid (Below.then HBX.out (Below.undrew hb7) HBX.out.size)
            have KEEP1 : w7.cell? ⟨zb, 0, none⟩ = some (.int .i64 0) ∧ w7.cell? ⟨zb, 1, none⟩ = some (.slice ZA 0 ZC) := ⟨(HB7.out.cell (p := ⟨zb, 0, none⟩) hzbW).trans k0, (HB7.out.cell (p := ⟨zb, 1, none⟩) hzbW).trans k1⟩
            clear hb7
            go_wp2_with fail
            refine hK.out _ _ KEEP1 (fun hHeld => ?_)
            clear hK K
            try simp only [Act.put, List.setIfInBounds_toArray, List.set_cons_zero, List.set_cons_succ]
            refine takeAt (i := 31) (v := ?_) (some 113) rfl rfl (by kernel_rfl) (by kernel_rfl) (by kernel_rfl) (fun _ _ _ h => h) (Or.inl ⟨by rfl, ?_⟩) (by assumption) ?_
            rotate_left 1
            · (intro w0 hSw; (try dsimp only at hSw); go_simp; try (with_reducible rfl))
            try simp only [Act.put, List.setIfInBounds_toArray, List.set_cons_zero, List.set_cons_succ]
            refine takeAt (i := 32) (v := ?_) (some 114) rfl rfl (by kernel_rfl) (by kernel_rfl) (by kernel_rfl) (fun _ _ _ h => h) (Or.inl ⟨by rfl, ?_⟩) (by assumption) ?_
            rotate_left 1
            · (intro w0 hSw; (try dsimp only at hSw); go_simp; try (with_reducible rfl))
            try simp only [Act.put, List.setIfInBounds_toArray, List.set_cons_zero, List.set_cons_succ]
            refine takeAt (i := 33) (v := ?_) (some 115) rfl rfl (by kernel_rfl) (by kernel_rfl) (by kernel_rfl) (fun _ _ _ h => h) (Or.inl ⟨by rfl, ?_⟩) (by assumption) ?_
            rotate_left 1
            · (intro w0 hSw; (try dsimp only at hSw); go_simp; try (with_reducible rfl))
            try simp only [Act.put, List.setIfInBounds_toArray, List.set_cons_zero, List.set_cons_succ]
            refine wpAnyH_done (by kernel_rfl) ?_ _
            all_goals
              skip
              have v2 : w7.cell? ⟨w.heap.size, 2, none⟩ = some (.int .i64 oth) := (HB7.out.cell (p := ⟨w.heap.size, 2, none⟩) hzwW).trans c2
              have v0 : w7.cell? ⟨w.heap.size, 0, none⟩ = some (.int .i64 col) := (HB7.out.cell (p := ⟨w.heap.size, 0, none⟩) hzwW).trans c0
              rcases HALL2.out with ⟨hib, rfl, rfl, rfl⟩ | ⟨hib, e2, rfl, rfl⟩
              · have y0 : w7.cell? ⟨vb, 0, none⟩ = some (.int .i64 0) := (HB7.out.cell (p := ⟨vb, 0, none⟩) hvv).trans (HRV.out.cell 0)
                have y1 : w7.cell? ⟨vb, 1, none⟩ = some (.slice VA 0 VC) := (HB7.out.cell (p := ⟨vb, 1, none⟩) hvv).trans (HRV.out.cell 1)
                have hor : oth < 0 ∨ (ar : Int) % 5 ≤ oth := by
                  unfold inBoth at hib
                  simp at hib
                  omega
                clear hib
                by_cases f1 : oth < 0
                · have f1' : decide (oth < 0) = true := by simpa using f1
                  go_wp2_with fail
                  refine (l7Is_nil 0 VA VC w7).mono ?_
                  rintro e w8 ⟨rfl, hb8⟩
                  have HB8 := Lib.hid (Below.then HB7.out hb8 HB7.out.size)
                  clear hb8
                  go_wp2_with fail
                  refine (HEND.out w8 HB8.out).mono ?_
                  rintro e w9 ⟨rfl, hb9⟩
                  go_wp2
                  go_ret
                  exact ⟨rfl, hb9⟩
                · have f1' : decide (oth < 0) = false := by simpa using f1
                  have f2' : decide ((ar : Int) % 5 ≤ oth) = true := by simp; omega
                  go_wp2_with fail
                  refine (l7Is_nil 0 VA VC w7).mono ?_
                  rintro e w8 ⟨rfl, hb8⟩
                  have HB8 := Lib.hid (Below.then HB7.out hb8 HB7.out.size)
                  clear hb8
                  go_wp2_with fail
                  refine (HEND.out w8 HB8.out).mono ?_
                  rintro e w9 ⟨rfl, hb9⟩
                  go_wp2
                  go_ret
                  exact ⟨rfl, hb9⟩
              · subst e2
                have hand := hib
                unfold inBoth at hand
                simp only [Bool.and_eq_true, decide_eq_true_eq] at hand
                have f1' : decide (oth < 0) = false := by simp; omega
                have f2' : decide ((ar : Int) % 5 ≤ oth) = false := by simp; omega
                obtain ⟨c, rfl⟩ := Int.eq_ofNat_of_zero_le (show 0 ≤ col by omega)
                obtain ⟨c', rfl⟩ := Int.eq_ofNat_of_zero_le (show 0 ≤ oth by omega)
                have HRS2 := Lib.hid (fun W (hb : Below W4.heap.size W4 W) => r7SelectSame_any MA MC Y c c' W (HMS.out.upB (Below.then HB4.out hb HB4.out.size)) (by omega) HYO.out (fun x hx => by have := HLEN.out x hx; omega))
                have HVO : Hid (RsOk (sameF Y c c')) := HYO.out.of_mem (sameF_sub Y c c')
                have hvl : (sameF Y c c').length ≤ 40 := by have := List.length_filter_le (fun x => RL.cmpV (x.getD (c : Int).toNat zV) (x.getD (c' : Int).toNat zV) == 0) Y; unfold sameF; omega
                generalize sameF Y c c' = V at *
                have HKY : Hid (∀ W, Below W4.heap.size W4 W → W.cell? ⟨vb, 0, none⟩ = some (.int .i64 ((ar : Int) % 5)) ∧ W.cell? ⟨vb, 1, none⟩ = some (.slice VA V.length VC) ∧ W.cell? ⟨w.heap.size, 0, none⟩ = some (.int .i64 c) ∧ W.cell? ⟨w.heap.size, 2, none⟩ = some (.int .i64 c')) := fun W hb => ⟨(hb.cell (p := ⟨vb, 0, none⟩) hvv).trans (HRV.out.cell 0), (hb.cell (p := ⟨vb, 1, none⟩) hvv).trans (HRV.out.cell 1), (hb.cell (p := ⟨w.heap.size, 0, none⟩) hzwW).trans c0, (hb.cell (p := ⟨w.heap.size, 2, none⟩) hzwW).trans c2⟩
                obtain ⟨y0, y1, -, -⟩ := HKY.out w7 HB7.out
                clear hib hand
                go_wp2_with fail
                go_region_held3 (fun w' => w'.cell? ⟨vb, 0, none⟩ = some (.int .i64 ((ar : Int) % 5)) ∧ w'.cell? ⟨vb, 1, none⟩ = some (.slice VA V.length VC) ∧ w'.cell? ⟨w.heap.size, 0, none⟩ = some (.int .i64 c) ∧ w'.cell? ⟨w.heap.size, 2, none⟩ = some (.int .i64 c')) (first | exact KEEP9 | exact KEEP8 | exact KEEP7 | go_keep)
                  (first
                    | (go_at_call 38; refine (HRS2.out w7.drew HB7.out.drew).mono ?_; rintro e w8 ⟨rv8, rfl, ⟨NA, NC, rfl, -, -, hs8⟩, hb8⟩
                       have HS8 := Lib.hid hs8
                       have HB8 := Lib.hid (Below.then HB7.out (Below.undrew hb8) HB7.out.size)
                       have KEEP7 := HKY.out w8 HB8.out
                       clear hs8 hb8)
                    | (go_at_call 24; refine (l7Is_ok ((ar % 5 : Nat) : Int) VA NA VC NC V w8 (HSV.out.upB HB8.out) HS8.out HVO.out (by omega)).mono ?_; rintro e w9 ⟨rfl, hb9⟩
                       have HB9 := Lib.hid (Below.then HB8.out hb9 HB8.out.size)
                       have KEEP8 := HKY.out w9 HB9.out
                       clear hb9)
                    | (go_at_call 14; refine (l7awake_any w9).mono ?_; rintro e w10 ⟨rfl, hb10⟩
                       have HB10 := Lib.hid (Below.then HB9.out hb10 HB9.out.size)
                       have KEEP9 := HKY.out w10 HB10.out
                       clear hb10)
                    | fail)
                all_goals
                  go_wp2
                  go_ret
                  exact ⟨rfl, Below.then HB2.out (Below.then HB4.out HB10.out HB4.out.size) HB2.out.size⟩
          · rw [hv] at he
            simp only [if_true] at he
            obtain ⟨rfl, ⟨h0, -⟩ | ⟨-, e1, rfl⟩⟩ := HALL.out
            · exact absurd he h0
            subst e1
            rw [he]
            clear he hv
            have hcc : ((col.toNat : Nat) : Int) = col := Int.toNat_of_nonneg hn.1
            have HRS3 : Hid (∀ W, Below W4.heap.size W4 W → Calls Try.prog 37 #[.slice MA Y.length MC, .int .i64 col, .int .i64 op, vv v] W fun e w' => ∃ rv, e = .returned rv ∧ RowsIs w' (selF Y col op v) rv ∧ Below W.heap.size W w') := fun W hb => by
              have h := r7Select_any MA MC Y col.toNat op v W (HMS.out.upB (Below.then HB4.out hb HB4.out.size)) (by omega) HYO.out (fun x hx => by have := HLEN.out x hx; omega) HVS
              rw [hcc] at h
              exact h
            have HZO : Hid (RsOk (selF Y col op v)) := HYO.out.of_mem (selF_sub Y col op v)
            have hzl : (selF Y col op v).length ≤ 40 := by have := List.length_filter_le (fun x => RL.holdsF op (RL.cmpV (x.getD col.toNat zV) v)) Y; unfold selF; omega
            clear hcc
            generalize selF Y col op v = Z at *
            have HKZ : Hid (∀ W, Below W4.heap.size W4 W → W.cell? ⟨zb, 0, none⟩ = some (.int .i64 ((ar : Int) % 5)) ∧ W.cell? ⟨zb, 1, none⟩ = some (.slice ZA Z.length ZC) ∧ W.cell? ⟨w.heap.size, 0, none⟩ = some (.int .i64 col) ∧ W.cell? ⟨w.heap.size, 1, none⟩ = some (.int .i64 op) ∧ W.cell? ⟨w.heap.size, 3, none⟩ = some (.int .i64 v.kind) ∧ W.cell? ⟨w.heap.size, 4, none⟩ = some (.int .i64 v.int) ∧ W.cell? ⟨w.heap.size, 5, none⟩ = some (.string v.str)) := fun W hb => ⟨(hb.cell (p := ⟨zb, 0, none⟩) hzbW).trans (HRZ4.out.cell 0), (hb.cell (p := ⟨zb, 1, none⟩) hzbW).trans (HRZ4.out.cell 1), (hb.cell (p := ⟨w.heap.size, 0, none⟩) hzwW).trans c0, (hb.cell (p := ⟨w.heap.size, 1, none⟩) hzwW).trans c1, (hb.cell (p := ⟨w.heap.size, 3, none⟩) hzwW).trans c3, (hb.cell (p := ⟨w.heap.size, 4, none⟩) hzwW).trans c4, (hb.cell (p := ⟨w.heap.size, 5, none⟩) hzwW).trans c5⟩
            obtain ⟨k0, k1, k2, k3, k4, k5, k6⟩ := HKZ.out w6 HBX.out
            go_wp2_with fail
            refine wp_region_held_drew (S := (fun w' => w'.cell? ⟨zb, 0, none⟩ = some (.int .i64 ((ar : Int) % 5)) ∧ w'.cell? ⟨zb, 1, none⟩ = some (.slice ZA Z.length ZC) ∧ w'.cell? ⟨w.heap.size, 0, none⟩ = some (.int .i64 col) ∧ w'.cell? ⟨w.heap.size, 1, none⟩ = some (.int .i64 op) ∧ w'.cell? ⟨w.heap.size, 3, none⟩ = some (.int .i64 v.kind) ∧ w'.cell? ⟨w.heap.size, 4, none⟩ = some (.int .i64 v.int) ∧ w'.cell? ⟨w.heap.size, 5, none⟩ = some (.string v.str))) (by kernel_rfl) ⟨k0, k1, k2, k3, k4, k5, k6⟩ (fun hHeld => ?_)
            refine takeAt (i := 0) (v := ?_) (some 82) rfl rfl (by kernel_rfl) (by kernel_rfl) (by kernel_rfl) (fun _ _ _ h => h) (Or.inl ⟨by rfl, ?_⟩) (by assumption) ?_
            rotate_left 1
            · (intro w0 hSw; (try dsimp only at hSw); go_simp; try (with_reducible rfl))
            try simp only [Act.put, List.setIfInBounds_toArray, List.set_cons_zero, List.set_cons_succ]
            refine takeAt (i := 1) (v := ?_) (some 83) rfl rfl (by kernel_rfl) (by kernel_rfl) (by kernel_rfl) (fun _ _ _ h => h) (Or.inl ⟨by rfl, ?_⟩) (by assumption) ?_
            rotate_left 1
            · (intro w0 hSw; (try dsimp only at hSw); go_simp; try (with_reducible rfl))
            try simp only [Act.put, List.setIfInBounds_toArray, List.set_cons_zero, List.set_cons_succ]
            refine takeAt (i := 2) (v := ?_) (some 84) rfl rfl (by kernel_rfl) (by kernel_rfl) (by kernel_rfl) (fun _ _ _ h => h) (Or.inl ⟨by rfl, ?_⟩) (by assumption) ?_
            rotate_left 1
            · (intro w0 hSw; (try dsimp only at hSw); go_simp; try (with_reducible rfl))
            try simp only [Act.put, List.setIfInBounds_toArray, List.set_cons_zero, List.set_cons_succ]
            refine takeAt (i := 3) (v := ?_) (some 85) rfl rfl (by kernel_rfl) (by kernel_rfl) (by kernel_rfl) (fun _ _ _ h => h) (Or.inl ⟨by rfl, ?_⟩) (by assumption) ?_
            rotate_left 1
            · (intro w0 hSw; (try dsimp only at hSw); go_simp; try (with_reducible rfl))
            try simp only [Act.put, List.setIfInBounds_toArray, List.set_cons_zero, List.set_cons_succ]
            refine takeAt (i := 4) (v := ?_) (some 86) rfl rfl (by kernel_rfl) (by kernel_rfl) (by kernel_rfl) (fun _ _ _ h => h) (Or.inl ⟨by rfl, ?_⟩) (by assumption) ?_
            rotate_left 1
            · (intro w0 hSw; (try dsimp only at hSw); go_simp; try (with_reducible rfl))
            try simp only [Act.put, List.setIfInBounds_toArray, List.set_cons_zero, List.set_cons_succ]
            refine takeAt (i := 5) (v := ?_) (some 87) rfl rfl (by kernel_rfl) (by kernel_rfl) (by kernel_rfl) (fun _ _ _ h => h) (Or.inl ⟨by rfl, ?_⟩) (by assumption) ?_
            rotate_left 1
            · (intro w0 hSw; (try dsimp only at hSw); go_simp; try (with_reducible rfl))
            try simp only [Act.put, List.setIfInBounds_toArray, List.set_cons_zero, List.set_cons_succ]
            refine takeAt (i := 6) (v := ?_) (some 88) rfl rfl (by kernel_rfl) (by kernel_rfl) (by kernel_rfl) (fun _ _ _ h => h) (Or.inl ⟨by rfl, ?_⟩) (by assumption) ?_
            rotate_left 1
            · (intro w0 hSw; (try dsimp only at hSw); go_simp; try (with_reducible rfl))
            try simp only [Act.put, List.setIfInBounds_toArray, List.set_cons_zero, List.set_cons_succ]
            refine takeAt (i := 7) (v := ?_) (some 89) rfl rfl (by kernel_rfl) (by kernel_rfl) (by kernel_rfl) (fun _ _ _ h => h) (Or.inl ⟨by rfl, ?_⟩) (by assumption) ?_
            rotate_left 1
            · (intro w0 hSw; (try dsimp only at hSw); go_simp; try (with_reducible rfl))
            try simp only [Act.put, List.setIfInBounds_toArray, List.set_cons_zero, List.set_cons_succ]
            refine takeAt (i := 8) (v := ?_) (some 90) rfl rfl (by kernel_rfl) (by kernel_rfl) (by kernel_rfl) (fun _ _ _ h => h) (Or.inl ⟨by rfl, ?_⟩) (by assumption) ?_
            rotate_left 1
            · (intro w0 hSw; (try dsimp only at hSw); go_simp; try (with_reducible rfl))
            try simp only [Act.put, List.setIfInBounds_toArray, List.set_cons_zero, List.set_cons_succ]
            refine takeAt (i := 9) (v := ?_) (some 91) rfl rfl (by kernel_rfl) (by kernel_rfl) (by kernel_rfl) (fun _ _ _ h => h) (Or.inl ⟨by rfl, ?_⟩) (by assumption) ?_
            rotate_left 1
            · (intro w0 hSw; (try dsimp only at hSw); go_simp; try (with_reducible rfl))
            try simp only [Act.put, List.setIfInBounds_toArray, List.set_cons_zero, List.set_cons_succ]
            refine takeAt (i := 10) (v := ?_) (some 92) rfl rfl (by kernel_rfl) (by kernel_rfl) (by kernel_rfl) (fun _ _ _ h => h) (Or.inl ⟨by rfl, ?_⟩) (by assumption) ?_
            rotate_left 1
            · (intro w0 hSw; (try dsimp only at hSw); go_simp; try (with_reducible rfl))
            try simp only [Act.put, List.setIfInBounds_toArray, List.set_cons_zero, List.set_cons_succ]
            refine takeAt (i := 11) (v := ?_) (some 93) rfl rfl (by kernel_rfl) (by kernel_rfl) (by kernel_rfl) (fun _ _ _ h => h) (Or.inl ⟨by rfl, ?_⟩) (by assumption) ?_
            rotate_left 1
            · (intro w0 hSw; (try dsimp only at hSw); go_simp; try (with_reducible rfl))
            try simp only [Act.put, List.setIfInBounds_toArray, List.set_cons_zero, List.set_cons_succ]
            refine takeAt (i := 12) (v := ?_) (some 94) rfl rfl (by kernel_rfl) (by kernel_rfl) (by kernel_rfl) (fun _ _ _ h => h) (Or.inl ⟨by rfl, ?_⟩) (by assumption) ?_
            rotate_left 1
            · (intro w0 hSw; (try dsimp only at hSw); go_simp; try (with_reducible rfl))
            try simp only [Act.put, List.setIfInBounds_toArray, List.set_cons_zero, List.set_cons_succ]
            refine takeAt (i := 13) (v := ?_) (some 95) rfl rfl (by kernel_rfl) (by kernel_rfl) (by kernel_rfl) (fun _ _ _ h => h) (Or.inl ⟨by rfl, ?_⟩) (by assumption) ?_
            rotate_left 1
            · (intro w0 hSw; (try dsimp only at hSw); go_simp; try (with_reducible rfl))
            try simp only [Act.put, List.setIfInBounds_toArray, List.set_cons_zero, List.set_cons_succ]
            refine takeAt (i := 14) (v := ?_) (some 96) rfl rfl (by kernel_rfl) (by kernel_rfl) (by kernel_rfl) (fun _ _ _ h => h) (Or.inl ⟨by rfl, ?_⟩) (by assumption) ?_
            rotate_left 1
            · (intro w0 hSw; (try dsimp only at hSw); go_simp; try (with_reducible rfl))
            try simp only [Act.put, List.setIfInBounds_toArray, List.set_cons_zero, List.set_cons_succ]
            refine takeAt (i := 15) (v := ?_) (some 97) rfl rfl (by kernel_rfl) (by kernel_rfl) (by kernel_rfl) (fun _ _ _ h => h) (Or.inl ⟨by rfl, ?_⟩) (by assumption) ?_
            rotate_left 1
            · (intro w0 hSw; (try dsimp only at hSw); go_simp; try (with_reducible rfl))
            try simp only [Act.put, List.setIfInBounds_toArray, List.set_cons_zero, List.set_cons_succ]
            refine takeAt (i := 16) (v := ?_) (some 98) rfl rfl (by kernel_rfl) (by kernel_rfl) (by kernel_rfl) (fun _ _ _ h => h) (Or.inl ⟨by rfl, ?_⟩) (by assumption) ?_
            rotate_left 1
            · (intro w0 hSw; (try dsimp only at hSw); go_simp; try (with_reducible rfl))
            try simp only [Act.put, List.setIfInBounds_toArray, List.set_cons_zero, List.set_cons_succ]
            refine takeAt (i := 17) (v := ?_) (some 99) rfl rfl (by kernel_rfl) (by kernel_rfl) (by kernel_rfl) (fun _ _ _ h => h) (Or.inl ⟨by rfl, ?_⟩) (by assumption) ?_
            rotate_left 1
            · (intro w0 hSw; (try dsimp only at hSw); go_simp; try (with_reducible rfl))
            try simp only [Act.put, List.setIfInBounds_toArray, List.set_cons_zero, List.set_cons_succ]
            refine takeAt (i := 18) (v := ?_) (some 100) rfl rfl (by kernel_rfl) (by kernel_rfl) (by kernel_rfl) (fun _ _ _ h => h) (Or.inl ⟨by rfl, ?_⟩) (by assumption) ?_
            rotate_left 1
            · (intro w0 hSw; (try dsimp only at hSw); go_simp; try (with_reducible rfl))
            try simp only [Act.put, List.setIfInBounds_toArray, List.set_cons_zero, List.set_cons_succ]
            refine takeAt (i := 19) (v := ?_) (some 101) rfl rfl (by kernel_rfl) (by kernel_rfl) (by kernel_rfl) (fun _ _ _ h => h) (Or.inl ⟨by rfl, ?_⟩) (by assumption) ?_
            rotate_left 1
            · (intro w0 hSw; (try dsimp only at hSw); go_simp; try (with_reducible rfl))
            try simp only [Act.put, List.setIfInBounds_toArray, List.set_cons_zero, List.set_cons_succ]
            refine wpAnyH_ready (rs := [20]) (by kernel_rfl) (by simp) ?_
            refine AllReadyH.cons rfl (fun K hK => ?_) AllReadyH.nil
            go_simp
            refine (HRS3.out w6.drew HBX.out.drew).mono ?_
            rintro e w7a ⟨rv7, rfl, ⟨NA, NC, rfl, -, -, hs7⟩, hb7⟩
            have HS7 := Lib.hid hs7
            have HB7a := Lib.hid (Below.then HBX.out (Below.undrew hb7) HBX.out.size)
            have KEEP1 := HKZ.out w7a HB7a.out
            clear hb7 hs7
            go_wp2_with fail
            refine hK.out _ _ KEEP1 (fun hHeld => ?_)
            clear hK K
            try simp only [Act.put, List.setIfInBounds_toArray, List.set_cons_zero, List.set_cons_succ]
            refine wpAnyH_ready (rs := [21]) (by kernel_rfl) (by simp) ?_
            refine AllReadyH.cons rfl (fun K hK => ?_) AllReadyH.nil
            go_simp
            refine (l7Is_ok ((ar % 5 : Nat) : Int) ZA NA ZC NC Z w7a (HSZ4.out.upB HB7a.out) HS7.out HZO.out (by omega)).mono ?_
            rintro e w7 ⟨rfl, hb7⟩
            have HB7 := Lib.hid (Below.then HB7a.out hb7 HB7a.out.size)
            have KEEP2 := HKZ.out w7 HB7.out
            clear hb7
            go_wp2_with fail
            refine hK.out _ _ KEEP2 (fun hHeld => ?_)
            clear hK K
            try simp only [Act.put, List.setIfInBounds_toArray, List.set_cons_zero, List.set_cons_succ]
            refine takeAt (i := 22) (v := ?_) (some 104) rfl rfl (by kernel_rfl) (by kernel_rfl) (by kernel_rfl) (fun _ _ _ h => h) (Or.inl ⟨by rfl, ?_⟩) (by assumption) ?_
            rotate_left 1
            · (intro w0 hSw; (try dsimp only at hSw); go_simp; try (with_reducible rfl))
            try simp only [Act.put, List.setIfInBounds_toArray, List.set_cons_zero, List.set_cons_succ]
            refine takeAt (i := 23) (v := ?_) (some 105) rfl rfl (by kernel_rfl) (by kernel_rfl) (by kernel_rfl) (fun _ _ _ h => h) (Or.inl ⟨by rfl, ?_⟩) (by assumption) ?_
            rotate_left 1
            · (intro w0 hSw; (try dsimp only at hSw); go_simp; try (with_reducible rfl))
            try simp only [Act.put, List.setIfInBounds_toArray, List.set_cons_zero, List.set_cons_succ]
            refine takeAt (i := 24) (v := ?_) (some 106) rfl rfl (by kernel_rfl) (by kernel_rfl) (by kernel_rfl) (fun _ _ _ h => h) (Or.inl ⟨by rfl, ?_⟩) (by assumption) ?_
            rotate_left 1
            · (intro w0 hSw; (try dsimp only at hSw); go_simp; try (with_reducible rfl))
            try simp only [Act.put, List.setIfInBounds_toArray, List.set_cons_zero, List.set_cons_succ]
            refine takeAt (i := 25) (v := ?_) (some 107) rfl rfl (by kernel_rfl) (by kernel_rfl) (by kernel_rfl) (fun _ _ _ h => h) (Or.inl ⟨by rfl, ?_⟩) (by assumption) ?_
            rotate_left 1
            · (intro w0 hSw; (try dsimp only at hSw); go_simp; try (with_reducible rfl))
            try simp only [Act.put, List.setIfInBounds_toArray, List.set_cons_zero, List.set_cons_succ]
            refine takeAt (i := 26) (v := ?_) (some 108) rfl rfl (by kernel_rfl) (by kernel_rfl) (by kernel_rfl) (fun _ _ _ h => h) (Or.inl ⟨by rfl, ?_⟩) (by assumption) ?_
            rotate_left 1
            · (intro w0 hSw; (try dsimp only at hSw); go_simp; try (with_reducible rfl))
            try simp only [Act.put, List.setIfInBounds_toArray, List.set_cons_zero, List.set_cons_succ]
            refine takeAt (i := 27) (v := ?_) (some 109) rfl rfl (by kernel_rfl) (by kernel_rfl) (by kernel_rfl) (fun _ _ _ h => h) (Or.inl ⟨by rfl, ?_⟩) (by assumption) ?_
            rotate_left 1
            · (intro w0 hSw; (try dsimp only at hSw); go_simp; try (with_reducible rfl))
            try simp only [Act.put, List.setIfInBounds_toArray, List.set_cons_zero, List.set_cons_succ]
            refine takeAt (i := 28) (v := ?_) (some 110) rfl rfl (by kernel_rfl) (by kernel_rfl) (by kernel_rfl) (fun _ _ _ h => h) (Or.inl ⟨by rfl, ?_⟩) (by assumption) ?_
            rotate_left 1
            · (intro w0 hSw; (try dsimp only at hSw); go_simp; try (with_reducible rfl))
            try simp only [Act.put, List.setIfInBounds_toArray, List.set_cons_zero, List.set_cons_succ]
            refine takeAt (i := 29) (v := undef) (some 111) rfl rfl (by kernel_rfl) (by kernel_rfl) (by kernel_rfl) (fun _ _ _ h => h) (Or.inr ⟨by rfl, rfl⟩) (by assumption) ?_
            try simp only [Act.put, List.setIfInBounds_toArray, List.set_cons_zero, List.set_cons_succ]
            refine takeAt (i := 30) (v := undef) (some 112) rfl rfl (by kernel_rfl) (by kernel_rfl) (by kernel_rfl) (fun _ _ _ h => h) (Or.inr ⟨by rfl, rfl⟩) (by assumption) ?_
            try simp only [Act.put, List.setIfInBounds_toArray, List.set_cons_zero, List.set_cons_succ]
            refine takeAt (i := 31) (v := undef) (some 113) rfl rfl (by kernel_rfl) (by kernel_rfl) (by kernel_rfl) (fun _ _ _ h => h) (Or.inr ⟨by rfl, rfl⟩) (by assumption) ?_
            try simp only [Act.put, List.setIfInBounds_toArray, List.set_cons_zero, List.set_cons_succ]
            refine takeAt (i := 32) (v := ?_) (some 114) rfl rfl (by kernel_rfl) (by kernel_rfl) (by kernel_rfl) (fun _ _ _ h => h) (Or.inl ⟨by rfl, ?_⟩) (by assumption) ?_
            rotate_left 1
            · (intro w0 hSw; (try dsimp only at hSw); go_simp; try (with_reducible rfl))
            try simp only [Act.put, List.setIfInBounds_toArray, List.set_cons_zero, List.set_cons_succ]
            refine takeAt (i := 33) (v := ?_) (some 115) rfl rfl (by kernel_rfl) (by kernel_rfl) (by kernel_rfl) (fun _ _ _ h => h) (Or.inl ⟨by rfl, ?_⟩) (by assumption) ?_
            rotate_left 1
            · (intro w0 hSw; (try dsimp only at hSw); go_simp; try (with_reducible rfl))
            try simp only [Act.put, List.setIfInBounds_toArray, List.set_cons_zero, List.set_cons_succ]
            refine wpAnyH_done (by kernel_rfl) ?_ _
            all_goals
              skip
              have v2 : w7.cell? ⟨w.heap.size, 2, none⟩ = some (.int .i64 oth) := (HB7.out.cell (p := ⟨w.heap.size, 2, none⟩) hzwW).trans c2
              have v0 : w7.cell? ⟨w.heap.size, 0, none⟩ = some (.int .i64 col) := (HB7.out.cell (p := ⟨w.heap.size, 0, none⟩) hzwW).trans c0
              rcases HALL2.out with ⟨hib, rfl, rfl, rfl⟩ | ⟨hib, e2, rfl, rfl⟩
              · have y0 : w7.cell? ⟨vb, 0, none⟩ = some (.int .i64 0) := (HB7.out.cell (p := ⟨vb, 0, none⟩) hvv).trans (HRV.out.cell 0)
                have y1 : w7.cell? ⟨vb, 1, none⟩ = some (.slice VA 0 VC) := (HB7.out.cell (p := ⟨vb, 1, none⟩) hvv).trans (HRV.out.cell 1)
                have hor : oth < 0 ∨ (ar : Int) % 5 ≤ oth := by
                  unfold inBoth at hib
                  simp at hib
                  omega
                clear hib
                by_cases f1 : oth < 0
                · have f1' : decide (oth < 0) = true := by simpa using f1
                  go_wp2_with fail
                  refine (l7Is_nil 0 VA VC w7).mono ?_
                  rintro e w8 ⟨rfl, hb8⟩
                  have HB8 := Lib.hid (Below.then HB7.out hb8 HB7.out.size)
                  clear hb8
                  go_wp2_with fail
                  refine (HEND.out w8 HB8.out).mono ?_
                  rintro e w9 ⟨rfl, hb9⟩
                  go_wp2
                  go_ret
                  exact ⟨rfl, hb9⟩
                · have f1' : decide (oth < 0) = false := by simpa using f1
                  have f2' : decide ((ar : Int) % 5 ≤ oth) = true := by simp; omega
                  go_wp2_with fail
                  refine (l7Is_nil 0 VA VC w7).mono ?_
                  rintro e w8 ⟨rfl, hb8⟩
                  have HB8 := Lib.hid (Below.then HB7.out hb8 HB7.out.size)
                  clear hb8
                  go_wp2_with fail
                  refine (HEND.out w8 HB8.out).mono ?_
                  rintro e w9 ⟨rfl, hb9⟩
                  go_wp2
                  go_ret
                  exact ⟨rfl, hb9⟩
              · subst e2
                have hand := hib
                unfold inBoth at hand
                simp only [Bool.and_eq_true, decide_eq_true_eq] at hand
                have f1' : decide (oth < 0) = false := by simp; omega
                have f2' : decide ((ar : Int) % 5 ≤ oth) = false := by simp; omega
                obtain ⟨c, rfl⟩ := Int.eq_ofNat_of_zero_le (show 0 ≤ col by omega)
                obtain ⟨c', rfl⟩ := Int.eq_ofNat_of_zero_le (show 0 ≤ oth by omega)
                have HRS2 := Lib.hid (fun W (hb : Below W4.heap.size W4 W) => r7SelectSame_any MA MC Y c c' W (HMS.out.upB (Below.then HB4.out hb HB4.out.size)) (by omega) HYO.out (fun x hx => by have := HLEN.out x hx; omega))
                have HVO : Hid (RsOk (sameF Y c c')) := HYO.out.of_mem (sameF_sub Y c c')
                have hvl : (sameF Y c c').length ≤ 40 := by have := List.length_filter_le (fun x => RL.cmpV (x.getD (c : Int).toNat zV) (x.getD (c' : Int).toNat zV) == 0) Y; unfold sameF; omega
                generalize sameF Y c c' = V at *
                have HKY : Hid (∀ W, Below W4.heap.size W4 W → W.cell? ⟨vb, 0, none⟩ = some (.int .i64 ((ar : Int) % 5)) ∧ W.cell? ⟨vb, 1, none⟩ = some (.slice VA V.length VC) ∧ W.cell? ⟨w.heap.size, 0, none⟩ = some (.int .i64 c) ∧ W.cell? ⟨w.heap.size, 2, none⟩ = some (.int .i64 c')) := fun W hb => ⟨(hb.cell (p := ⟨vb, 0, none⟩) hvv).trans (HRV.out.cell 0), (hb.cell (p := ⟨vb, 1, none⟩) hvv).trans (HRV.out.cell 1), (hb.cell (p := ⟨w.heap.size, 0, none⟩) hzwW).trans c0, (hb.cell (p := ⟨w.heap.size, 2, none⟩) hzwW).trans c2⟩
                obtain ⟨y0, y1, -, -⟩ := HKY.out w7 HB7.out
                clear hib hand
                go_wp2_with fail
                go_region_held3 (fun w' => w'.cell? ⟨vb, 0, none⟩ = some (.int .i64 ((ar : Int) % 5)) ∧ w'.cell? ⟨vb, 1, none⟩ = some (.slice VA V.length VC) ∧ w'.cell? ⟨w.heap.size, 0, none⟩ = some (.int .i64 c) ∧ w'.cell? ⟨w.heap.size, 2, none⟩ = some (.int .i64 c')) (first | exact KEEP9 | exact KEEP8 | exact KEEP7 | go_keep)
                  (first
                    | (go_at_call 38; refine (HRS2.out w7.drew HB7.out.drew).mono ?_; rintro e w8 ⟨rv8, rfl, ⟨NA, NC, rfl, -, -, hs8⟩, hb8⟩
                       have HS8 := Lib.hid hs8
                       have HB8 := Lib.hid (Below.then HB7.out (Below.undrew hb8) HB7.out.size)
                       have KEEP7 := HKY.out w8 HB8.out
                       clear hs8 hb8)
                    | (go_at_call 24; refine (l7Is_ok ((ar % 5 : Nat) : Int) VA NA VC NC V w8 (HSV.out.upB HB8.out) HS8.out HVO.out (by omega)).mono ?_; rintro e w9 ⟨rfl, hb9⟩
                       have HB9 := Lib.hid (Below.then HB8.out hb9 HB8.out.size)
                       have KEEP8 := HKY.out w9 HB9.out
                       clear hb9)
                    | (go_at_call 14; refine (l7awake_any w9).mono ?_; rintro e w10 ⟨rfl, hb10⟩
                       have HB10 := Lib.hid (Below.then HB9.out hb10 HB9.out.size)
                       have KEEP9 := HKY.out w10 HB10.out
                       clear hb10)
                    | fail)
                all_goals
                  go_wp2
                  go_ret
                  exact ⟨rfl, Below.then HB2.out (Below.then HB4.out HB10.out HB4.out.size) HB2.out.size⟩

end Go.Proofs.Ytiopkooigeaneaa

/- Lists of updates as cells; appends of whole lists (updates, versions of the reference, batches). -/
import Derived.Test.YtgaffbdcpkbdhaaHZ25
import Derived.Test.YtgaffbdcpkbdhaaQ2
namespace Go.Proofs.Ytgaffbdcpkbdhaa
open Go.RowKit Go.Sort Go.ChangeMaps Go.WideShapes

theorem updInfo : (Try.prog.info? 56).map (fun i => (i.zero, i.size, i.bytes)) = some (some (.agg #[.bool false, .string ⟨#[]⟩, .slice none 0 0]), 3, 48) := by kernel_rfl
theorem r16verInfo : (Try.prog.info? 103).map (fun i => (i.zero, i.size, i.bytes)) = some (some (.agg #[.int .i64 0, .int .i64 0, .int .i64 0]), 3, 24) := by kernel_rfl
theorem updsInfo : (Try.prog.info? 49).map (fun i => (i.zero, i.size, i.bytes)) = some (some (.slice none 0 0), 1, 24) := by kernel_rfl

set_option maxRecDepth 4000 in
theorem runXUpd {w : World} (ty : TypeId) (base : Nat) (v : Value) (n : Nat) (xs : List Value) (hown : w.ownsRow base 56 3 v n xs)
    (A : Option Addr) (m C : Nat) (news : List Value) (hl : news.length = m * 3) (hz : Sl w.heap.size w A news) (h1 : ∀ u ∈ news, u.oneCell' = true) (hn : n + m ≤ 1000000) (hbase : base ≤ w.heap.size) :
    ∃ v' w', (Builtin.append_ #[49, 49] ty #[v, .slice A m C]).run Try.prog w = .ok v' w' ∧ w'.ownsRow base 56 3 v' (n + m) (xs ++ news) ∧ w.grownBy w' v.ownBlock ∧ (∀ b, v'.ownBlock = some b → v.ownBlock = some b ∨ b = w.heap.size) := by
  obtain ⟨i0, hi0, hz0, hz1, hz2⟩ := info_parts updInfo
  rcases A with _ | ad
  · have hy : m = 0 := by
      rcases Nat.eq_zero_or_pos m with h | h
      · exact h
      · obtain ⟨b, o, e', hb, hc⟩ := hz (fun h0 => by rw [h0] at hl; simp only [List.length_nil] at hl; omega)
        cases e'
    subst hy
    obtain rfl : news = [] := List.eq_nil_of_length_eq_zero (by rw [hl, Nat.zero_mul])
    exact ⟨v, w, run_append_none (P := Try.prog) w base 49 ty 56 i0 3 Try.underlying49 hi0 v n xs hown C, by simpa using hown, ⟨rfl, rfl, rfl, Nat.le_refl _, fun _ _ _ => rfl⟩, fun b hb => .inl hb⟩
  · have hcell : ∀ j u, news[j]? = some u → w.cell? (ad.add j) = some u := fun j u hu => by
      obtain ⟨b, o, e', hb, hc⟩ := hz (by intro h0; rw [h0] at hu; simp at hu)
      injection e' with e'
      subst e'
      rw [Addr.add_lit]
      exact hc j u hu
    obtain ⟨v', w', hrun, k2, k3, _, k5⟩ := run_append_own_at (P := Try.prog) w base 49 ty 56 i0 _ 3 48 Try.underlying49 hi0 hz0 hz1 hz2 rfl (by decide) v n xs hown ad m C news hl hcell h1 (by simp only [maxLen]; omega) (by omega) hbase
    exact ⟨v', w', hrun, k2, k3, fun b hb => by
      rcases k5 with k5 | k5
      · exact .inl (by rw [← k5]; exact hb)
      · rw [k5] at hb; injection hb with hb; exact .inr hb.symm⟩
/-- append(l, more...). -/
theorem appXUpd {w : World} {ops : Array Oper} {rest : List Oper} {o : Oper} {a : Act} {Q : Exit → Act → World → Prop} (hgd : o.guard = none) (s x : Operand)
    (ho : o.op = .call { callee := .builtin .append, args := #[s, x], argTypes := #[49, 49] })
    (base : Nat) (v : Value) (n : Nat) (xs : List Value) (hs0 : a.eval s = v) (hown : w.ownsRow base 56 3 v n xs)
    (A : Option Addr) (m C : Nat) (news : List Value) (hx : a.eval x = .slice A m C) (hl : news.length = m * 3) (hz : Sl w.heap.size w A news) (h1 : ∀ u ∈ news, u.oneCell' = true)
    (hn : n + m ≤ 1000000) (hbase : base ≤ w.heap.size)
    (h : ∀ v' w', w'.ownsRow base 56 3 v' (n + m) (xs ++ news) → w.grownBy w' v.ownBlock → (∀ b, v'.ownBlock = some b → v.ownBlock = some b ∨ b = w.heap.size) → wpList Try.prog ops Q rest (a.put o.dst v') w') : wpList Try.prog ops Q (o :: rest) a w := by
  refine wpList_plain hgd fun K hK => ?_
  obtain ⟨v', w', hrun, k2, k3, k4⟩ := runXUpd o.type base v n xs hown A m C news hl hz h1 hn hbase
  unfold Oper.wp execOp
  simp only [ho, resolve, invoke, builtin, Sem.run_bind, Sem.run_pure, Result.andThen_ok, List.map_toArray, List.map_cons, List.map_nil, hs0, hx, hrun]
  exact hK _ _ (h v' w' k2 k3 k4)
/-- The same at a step of a drawn region. -/
theorem stepXUpd {w : World} {ops : Array Oper} {o : Oper} {a : Act} {K : Act → World → Prop} {Q : Exit → Act → World → Prop} {E : Prop} (hgd : o.guard = none) (s x : Operand)
    (ho : o.op = .call { callee := .builtin .append, args := #[s, x], argTypes := #[49, 49] })
    (base : Nat) (v : Value) (n : Nat) (xs : List Value) (hs0 : a.eval s = v) (hown : w.ownsRow base 56 3 v n xs)
    (A : Option Addr) (m C : Nat) (news : List Value) (hx : a.eval x = .slice A m C) (hl : news.length = m * 3) (hz : Sl w.heap.size w A news) (h1 : ∀ u ∈ news, u.oneCell' = true)
    (hn : n + m ≤ 1000000) (hbase : base ≤ w.heap.size)
    (h : ∀ v' w', w'.ownsRow base 56 3 v' (n + m) (xs ++ news) → w.grownBy w' v.ownBlock → (∀ b, v'.ownBlock = some b → v.ownBlock = some b ∨ b = w.heap.size) → K (a.put o.dst v') w') :
    if Region.wanted o (yielded ops a.tmps) = true then Oper.wp Try.prog o a w K Q else E := by
  obtain ⟨v', w', hrun, k2, k3, k4⟩ := runXUpd o.type base v n xs hown A m C news hl hz h1 hn hbase
  have hw : Region.wanted o (yielded ops a.tmps) = true := by unfold Region.wanted; rw [hgd]
  rw [if_pos hw]
  unfold Oper.wp execOp
  simp only [ho, resolve, invoke, builtin, Sem.run_bind, Sem.run_pure, Result.andThen_ok, List.map_toArray, List.map_cons, List.map_nil, hs0, hx, hrun]
  exact h v' w' k2 k3 k4
set_option maxRecDepth 4000 in
theorem runXVer {w : World} (ty : TypeId) (base : Nat) (v : Value) (n : Nat) (xs : List Value) (hown : w.ownsRow base 103 3 v n xs)
    (A : Option Addr) (m C : Nat) (news : List Value) (hl : news.length = m * 3) (hz : Sl w.heap.size w A news) (h1 : ∀ u ∈ news, u.oneCell' = true) (hn : n + m ≤ 1000000) (hbase : base ≤ w.heap.size) :
    ∃ v' w', (Builtin.append_ #[63, 63] ty #[v, .slice A m C]).run Try.prog w = .ok v' w' ∧ w'.ownsRow base 103 3 v' (n + m) (xs ++ news) ∧ w.grownBy w' v.ownBlock ∧ (∀ b, v'.ownBlock = some b → v.ownBlock = some b ∨ b = w.heap.size) := by
  obtain ⟨i0, hi0, hz0, hz1, hz2⟩ := info_parts r16verInfo
  rcases A with _ | ad
  · have hy : m = 0 := by
      rcases Nat.eq_zero_or_pos m with h | h
      · exact h
      · obtain ⟨b, o, e', hb, hc⟩ := hz (fun h0 => by rw [h0] at hl; simp only [List.length_nil] at hl; omega)
        cases e'
    subst hy
    obtain rfl : news = [] := List.eq_nil_of_length_eq_zero (by rw [hl, Nat.zero_mul])
    exact ⟨v, w, run_append_none (P := Try.prog) w base 63 ty 103 i0 3 Try.underlying63 hi0 v n xs hown C, by simpa using hown, ⟨rfl, rfl, rfl, Nat.le_refl _, fun _ _ _ => rfl⟩, fun b hb => .inl hb⟩
  · have hcell : ∀ j u, news[j]? = some u → w.cell? (ad.add j) = some u := fun j u hu => by
      obtain ⟨b, o, e', hb, hc⟩ := hz (by intro h0; rw [h0] at hu; simp at hu)
      injection e' with e'
      subst e'
      rw [Addr.add_lit]
      exact hc j u hu
    obtain ⟨v', w', hrun, k2, k3, _, k5⟩ := run_append_own_at (P := Try.prog) w base 63 ty 103 i0 _ 3 24 Try.underlying63 hi0 hz0 hz1 hz2 rfl (by decide) v n xs hown ad m C news hl hcell h1 (by simp only [maxLen]; omega) (by omega) hbase
    exact ⟨v', w', hrun, k2, k3, fun b hb => by
      rcases k5 with k5 | k5
      · exact .inl (by rw [← k5]; exact hb)
      · rw [k5] at hb; injection hb with hb; exact .inr hb.symm⟩
/-- append(l, more...). -/
theorem appXVer {w : World} {ops : Array Oper} {rest : List Oper} {o : Oper} {a : Act} {Q : Exit → Act → World → Prop} (hgd : o.guard = none) (s x : Operand)
    (ho : o.op = .call { callee := .builtin .append, args := #[s, x], argTypes := #[63, 63] })
    (base : Nat) (v : Value) (n : Nat) (xs : List Value) (hs0 : a.eval s = v) (hown : w.ownsRow base 103 3 v n xs)
    (A : Option Addr) (m C : Nat) (news : List Value) (hx : a.eval x = .slice A m C) (hl : news.length = m * 3) (hz : Sl w.heap.size w A news) (h1 : ∀ u ∈ news, u.oneCell' = true)
    (hn : n + m ≤ 1000000) (hbase : base ≤ w.heap.size)
    (h : ∀ v' w', w'.ownsRow base 103 3 v' (n + m) (xs ++ news) → w.grownBy w' v.ownBlock → (∀ b, v'.ownBlock = some b → v.ownBlock = some b ∨ b = w.heap.size) → wpList Try.prog ops Q rest (a.put o.dst v') w') : wpList Try.prog ops Q (o :: rest) a w := by
  refine wpList_plain hgd fun K hK => ?_
  obtain ⟨v', w', hrun, k2, k3, k4⟩ := runXVer o.type base v n xs hown A m C news hl hz h1 hn hbase
  unfold Oper.wp execOp
  simp only [ho, resolve, invoke, builtin, Sem.run_bind, Sem.run_pure, Result.andThen_ok, List.map_toArray, List.map_cons, List.map_nil, hs0, hx, hrun]
  exact hK _ _ (h v' w' k2 k3 k4)
/-- The same at a step of a drawn region. -/
theorem stepXVer {w : World} {ops : Array Oper} {o : Oper} {a : Act} {K : Act → World → Prop} {Q : Exit → Act → World → Prop} {E : Prop} (hgd : o.guard = none) (s x : Operand)
    (ho : o.op = .call { callee := .builtin .append, args := #[s, x], argTypes := #[63, 63] })
    (base : Nat) (v : Value) (n : Nat) (xs : List Value) (hs0 : a.eval s = v) (hown : w.ownsRow base 103 3 v n xs)
    (A : Option Addr) (m C : Nat) (news : List Value) (hx : a.eval x = .slice A m C) (hl : news.length = m * 3) (hz : Sl w.heap.size w A news) (h1 : ∀ u ∈ news, u.oneCell' = true)
    (hn : n + m ≤ 1000000) (hbase : base ≤ w.heap.size)
    (h : ∀ v' w', w'.ownsRow base 103 3 v' (n + m) (xs ++ news) → w.grownBy w' v.ownBlock → (∀ b, v'.ownBlock = some b → v.ownBlock = some b ∨ b = w.heap.size) → K (a.put o.dst v') w') :
    if Region.wanted o (yielded ops a.tmps) = true then Oper.wp Try.prog o a w K Q else E := by
  obtain ⟨v', w', hrun, k2, k3, k4⟩ := runXVer o.type base v n xs hown A m C news hl hz h1 hn hbase
  have hw : Region.wanted o (yielded ops a.tmps) = true := by unfold Region.wanted; rw [hgd]
  rw [if_pos hw]
  unfold Oper.wp execOp
  simp only [ho, resolve, invoke, builtin, Sem.run_bind, Sem.run_pure, Result.andThen_ok, List.map_toArray, List.map_cons, List.map_nil, hs0, hx, hrun]
  exact h v' w' k2 k3 k4
set_option maxRecDepth 4000 in
theorem runXBat {w : World} (ty : TypeId) (base : Nat) (v : Value) (n : Nat) (xs : List Value) (hown : w.ownsRow base 49 1 v n xs)
    (A : Option Addr) (m C : Nat) (news : List Value) (hl : news.length = m * 1) (hz : Sl w.heap.size w A news) (h1 : ∀ u ∈ news, u.oneCell' = true) (hn : n + m ≤ 1000000) (hbase : base ≤ w.heap.size) :
    ∃ v' w', (Builtin.append_ #[64, 64] ty #[v, .slice A m C]).run Try.prog w = .ok v' w' ∧ w'.ownsRow base 49 1 v' (n + m) (xs ++ news) ∧ w.grownBy w' v.ownBlock ∧ (∀ b, v'.ownBlock = some b → v.ownBlock = some b ∨ b = w.heap.size) := by
  obtain ⟨i0, hi0, hz0, hz1, hz2⟩ := info_parts updsInfo
  rcases A with _ | ad
  · have hy : m = 0 := by
      rcases Nat.eq_zero_or_pos m with h | h
      · exact h
      · obtain ⟨b, o, e', hb, hc⟩ := hz (fun h0 => by rw [h0] at hl; simp only [List.length_nil] at hl; omega)
        cases e'
    subst hy
    obtain rfl : news = [] := List.eq_nil_of_length_eq_zero (by rw [hl, Nat.zero_mul])
    exact ⟨v, w, run_append_none (P := Try.prog) w base 64 ty 49 i0 1 Try.underlying64 hi0 v n xs hown C, by simpa using hown, ⟨rfl, rfl, rfl, Nat.le_refl _, fun _ _ _ => rfl⟩, fun b hb => .inl hb⟩
  · have hcell : ∀ j u, news[j]? = some u → w.cell? (ad.add j) = some u := fun j u hu => by
      obtain ⟨b, o, e', hb, hc⟩ := hz (by intro h0; rw [h0] at hu; simp at hu)
      injection e' with e'
      subst e'
      rw [Addr.add_lit]
      exact hc j u hu
    obtain ⟨v', w', hrun, k2, k3, _, k5⟩ := run_append_own_at (P := Try.prog) w base 64 ty 49 i0 _ 1 24 Try.underlying64 hi0 hz0 hz1 hz2 rfl (by decide) v n xs hown ad m C news hl hcell h1 (by simp only [maxLen]; omega) (by omega) hbase
    exact ⟨v', w', hrun, k2, k3, fun b hb => by
      rcases k5 with k5 | k5
      · exact .inl (by rw [← k5]; exact hb)
      · rw [k5] at hb; injection hb with hb; exact .inr hb.symm⟩
/-- append(l, more...). -/
theorem appXBat {w : World} {ops : Array Oper} {rest : List Oper} {o : Oper} {a : Act} {Q : Exit → Act → World → Prop} (hgd : o.guard = none) (s x : Operand)
    (ho : o.op = .call { callee := .builtin .append, args := #[s, x], argTypes := #[64, 64] })
    (base : Nat) (v : Value) (n : Nat) (xs : List Value) (hs0 : a.eval s = v) (hown : w.ownsRow base 49 1 v n xs)
    (A : Option Addr) (m C : Nat) (news : List Value) (hx : a.eval x = .slice A m C) (hl : news.length = m * 1) (hz : Sl w.heap.size w A news) (h1 : ∀ u ∈ news, u.oneCell' = true)
    (hn : n + m ≤ 1000000) (hbase : base ≤ w.heap.size)
    (h : ∀ v' w', w'.ownsRow base 49 1 v' (n + m) (xs ++ news) → w.grownBy w' v.ownBlock → (∀ b, v'.ownBlock = some b → v.ownBlock = some b ∨ b = w.heap.size) → wpList Try.prog ops Q rest (a.put o.dst v') w') : wpList Try.prog ops Q (o :: rest) a w := by
  refine wpList_plain hgd fun K hK => ?_
  obtain ⟨v', w', hrun, k2, k3, k4⟩ := runXBat o.type base v n xs hown A m C news hl hz h1 hn hbase
  unfold Oper.wp execOp
  simp only [ho, resolve, invoke, builtin, Sem.run_bind, Sem.run_pure, Result.andThen_ok, List.map_toArray, List.map_cons, List.map_nil, hs0, hx, hrun]
  exact hK _ _ (h v' w' k2 k3 k4)
/-- The same at a step of a drawn region. -/
theorem stepXBat {w : World} {ops : Array Oper} {o : Oper} {a : Act} {K : Act → World → Prop} {Q : Exit → Act → World → Prop} {E : Prop} (hgd : o.guard = none) (s x : Operand)
    (ho : o.op = .call { callee := .builtin .append, args := #[s, x], argTypes := #[64, 64] })
    (base : Nat) (v : Value) (n : Nat) (xs : List Value) (hs0 : a.eval s = v) (hown : w.ownsRow base 49 1 v n xs)
    (A : Option Addr) (m C : Nat) (news : List Value) (hx : a.eval x = .slice A m C) (hl : news.length = m * 1) (hz : Sl w.heap.size w A news) (h1 : ∀ u ∈ news, u.oneCell' = true)
    (hn : n + m ≤ 1000000) (hbase : base ≤ w.heap.size)
    (h : ∀ v' w', w'.ownsRow base 49 1 v' (n + m) (xs ++ news) → w.grownBy w' v.ownBlock → (∀ b, v'.ownBlock = some b → v.ownBlock = some b ∨ b = w.heap.size) → K (a.put o.dst v') w') :
    if Region.wanted o (yielded ops a.tmps) = true then Oper.wp Try.prog o a w K Q else E := by
  obtain ⟨v', w', hrun, k2, k3, k4⟩ := runXBat o.type base v n xs hown A m C news hl hz h1 hn hbase
  have hw : Region.wanted o (yielded ops a.tmps) = true := by unfold Region.wanted; rw [hgd]
  rw [if_pos hw]
  unfold Oper.wp execOp
  simp only [ho, resolve, invoke, builtin, Sem.run_bind, Sem.run_pure, Result.andThen_ok, List.map_toArray, List.map_cons, List.map_nil, hs0, hx, hrun]
  exact h v' w' k2 k3 k4

/-- The cells of a list of updates. -/
structure UpdCs (B : Nat) (w : World) (us : List Upd) (cs : List Value) : Prop where
  len : cs.length = us.length * 3
  one : ∀ u ∈ cs, u.oneCell' = true
  at_ : ∀ i (h : i < us.length), ∃ RA RC, cs[i * 3]? = some (.bool us[i].del) ∧ cs[i * 3 + 1]? = some (.string us[i].rel) ∧ cs[i * 3 + 2]? = some (.slice RA us[i].row.length RC) ∧ SlR B w RA us[i].row
theorem UpdCs.nil {B : Nat} {w : World} : UpdCs B w [] [] := ⟨rfl, fun u hu => (by cases hu), fun i hi => absurd hi (Nat.not_lt_zero _)⟩
theorem UpdCs.below {B C : Nat} {w w' : World} {us : List Upd} {cs : List Value} (h : UpdCs B w us cs) (hb : Below C w w') (hC : B ≤ C) : UpdCs B w' us cs :=
  ⟨h.len, h.one, fun i hi => by obtain ⟨RA, RC, a, b, c, d⟩ := h.at_ i hi; exact ⟨RA, RC, a, b, c, d.below hb hC⟩⟩
theorem UpdCs.more {B B' : Nat} {w : World} {us : List Upd} {cs : List Value} (h : UpdCs B w us cs) (hB : B ≤ B') : UpdCs B' w us cs :=
  ⟨h.len, h.one, fun i hi => by obtain ⟨RA, RC, a, b, c, d⟩ := h.at_ i hi; exact ⟨RA, RC, a, b, c, d.more hB⟩⟩
theorem UpdCs.append {B : Nat} {w : World} {us vs : List Upd} {cs ds : List Value} (h : UpdCs B w us cs) (k : UpdCs B w vs ds) : UpdCs B w (us ++ vs) (cs ++ ds) := by
  refine ⟨by rw [List.length_append, List.length_append, h.len, k.len, Nat.add_mul], fun u hu => ?_, fun i hi => ?_⟩
  · rcases List.mem_append.1 hu with hu | hu
    · exact h.one u hu
    · exact k.one u hu
  · by_cases hiu : i < us.length
    · obtain ⟨RA, RC, a, b, c, d⟩ := h.at_ i hiu
      have hl := h.len
      refine ⟨RA, RC, ?_, ?_, ?_, ?_⟩
      · rw [List.getElem?_append_left (by omega), List.getElem_append_left hiu]; exact a
      · rw [List.getElem?_append_left (by omega), List.getElem_append_left hiu]; exact b
      · rw [List.getElem?_append_left (by omega), List.getElem_append_left hiu]; exact c
      · rw [List.getElem_append_left hiu]; exact d
    · rw [List.length_append] at hi
      obtain ⟨RA, RC, a, b, c, d⟩ := k.at_ (i - us.length) (by omega)
      have hl := h.len
      have e0 : i * 3 - cs.length = (i - us.length) * 3 := by omega
      have e1 : i * 3 + 1 - cs.length = (i - us.length) * 3 + 1 := by omega
      have e2 : i * 3 + 2 - cs.length = (i - us.length) * 3 + 2 := by omega
      have hge : us.length ≤ i := by omega
      refine ⟨RA, RC, ?_, ?_, ?_, ?_⟩
      · rw [List.getElem?_append_right (by omega), e0, List.getElem_append_right hge]; exact a
      · rw [List.getElem?_append_right (by omega), e1, List.getElem_append_right hge]; exact b
      · rw [List.getElem?_append_right (by omega), e2, List.getElem_append_right hge]; exact c
      · rw [List.getElem_append_right hge]; exact d
theorem UpdCs.one1 {B : Nat} {w : World} (u : Upd) (RA : Option Addr) (RC : Nat) (h : SlR B w RA u.row) : UpdCs B w [u] [.bool u.del, .string u.rel, .slice RA u.row.length RC] := by
  refine ⟨rfl, fun x hx => ?_, fun i hi => ?_⟩
  · simp at hx
    rcases hx with rfl | rfl | rfl <;> rfl
  · obtain rfl : i = 0 := by simp at hi; exact hi
    exact ⟨RA, RC, rfl, rfl, rfl, h⟩
theorem UpdsM.cs {B : Nat} {w : World} {A : Option Addr} {us : List Upd} (h : UpdsM B w A us) : ∃ cs, UpdCs B w us cs ∧ Sl B w A cs := by
  by_cases hne : us = []
  · subst hne
    exact ⟨[], UpdCs.nil, fun h => absurd rfl h⟩
  obtain ⟨b, o, rfl, hb, hc⟩ := h hne
  refine ⟨(List.range (us.length * 3)).map fun j => (w.cell? ⟨b, o + j, none⟩).getD (.bool false), ⟨by simp, fun u hu => ?_, fun i hi => ?_⟩, fun _ => ⟨b, o, rfl, hb, fun j u hu => ?_⟩⟩
  · obtain ⟨j, hj, rfl⟩ := List.mem_map.1 hu
    have hj := List.mem_range.1 hj
    obtain ⟨RA, RC, c0, c1, c2, -⟩ := hc (j / 3) (by omega)
    have hr : j % 3 = 0 ∨ j % 3 = 1 ∨ j % 3 = 2 := by omega
    rcases hr with hr | hr | hr
    · rw [show o + j = o + j / 3 * 3 by omega, c0]; rfl
    · rw [show o + j = o + j / 3 * 3 + 1 by omega, c1]; rfl
    · rw [show o + j = o + j / 3 * 3 + 2 by omega, c2]; rfl
  · obtain ⟨RA, RC, c0, c1, c2, c3⟩ := hc i hi
    refine ⟨RA, RC, ?_, ?_, ?_, c3⟩
    · rw [List.getElem?_map, List.getElem?_range (by omega), Option.map_some, c0]; rfl
    · rw [List.getElem?_map, List.getElem?_range (by omega), Option.map_some, show o + (i * 3 + 1) = o + i * 3 + 1 by omega, c1]; rfl
    · rw [List.getElem?_map, List.getElem?_range (by omega), Option.map_some, show o + (i * 3 + 2) = o + i * 3 + 2 by omega, c2]; rfl
  · rw [List.getElem?_map] at hu
    have hj : j < us.length * 3 := by
      rcases Nat.lt_or_ge j (us.length * 3) with h | h
      · exact h
      · rw [List.getElem?_eq_none (by simpa using h)] at hu; cases hu
    rw [List.getElem?_range hj] at hu
    simp only [Option.map_some, Option.some.injEq] at hu
    subst hu
    obtain ⟨RA, RC, c0, c1, c2, -⟩ := hc (j / 3) (by omega)
    have hr : j % 3 = 0 ∨ j % 3 = 1 ∨ j % 3 = 2 := by omega
    rcases hr with hr | hr | hr
    · rw [show o + j = o + j / 3 * 3 by omega, c0]; rfl
    · rw [show o + j = o + j / 3 * 3 + 1 by omega, c1]; rfl
    · rw [show o + j = o + j / 3 * 3 + 2 by omega, c2]; rfl
theorem UpdsM.of_cs {B : Nat} {w : World} {A : Option Addr} {us : List Upd} {cs : List Value} (h : UpdCs B w us cs) (hs : Sl B w A cs) : UpdsM B w A us := fun hn => by
  have hpos : 0 < us.length := List.length_pos_iff.2 hn
  have hl := h.len
  obtain ⟨b, o, rfl, hb, hc⟩ := hs (fun h0 => by rw [h0] at hl; simp only [List.length_nil] at hl; omega)
  exact ⟨b, o, rfl, hb, fun i hi => by
    obtain ⟨RA, RC, c0, c1, c2, c3⟩ := h.at_ i hi
    exact ⟨RA, RC, hc _ _ c0, by rw [Nat.add_assoc]; exact hc _ _ c1, by rw [Nat.add_assoc]; exact hc _ _ c2, c3⟩⟩
/-- A list of updates that a call made. -/
theorem own_updsM {w : World} {base : Nat} {v : Value} {n : Nat} {us : List Upd} {cs : List Value} (h : w.ownsRow base 56 3 v n cs) (hc : UpdCs w.heap.size w us cs) :
    ∃ A C, v = .slice A us.length C ∧ us.length ≤ C ∧ C ≤ 9223372036854775807 ∧ UpdsM w.heap.size w A us := by
  have hn : n = us.length := by have h1 := h.1; have h2 := hc.len; omega
  subst hn
  obtain ⟨A, C, e, h1, h2, h3⟩ := own_cut h (by decide)
  refine ⟨A, C, e, h1, h2, UpdsM.of_cs hc (fun hne => ?_)⟩
  obtain ⟨b, rfl, hb, hc⟩ := h3 hne
  exact ⟨b, 0, rfl, hb, fun i u hu => by rw [Nat.zero_add]; exact hc i u hu⟩
theorem own_new (w : World) (base : Nat) (T : TypeId) (size : Nat) (u : List Value) (hu : u.length = size) (hb : base ≤ w.heap.size) : (w.alloc (.cells u.toArray T)).ownsRow base T size (.slice (some ⟨w.heap.size, 0, none⟩) 1 1) 1 u :=
  ⟨by rw [hu, Nat.one_mul], .inr ⟨w.heap.size, 1, u.toArray, rfl, hb, Row.new w T u, Nat.le_refl _, by simp [maxLen], by simp [hu], by simp [hu, List.take_of_length_le]⟩⟩

end Go.Proofs.Ytgaffbdcpkbdhaa

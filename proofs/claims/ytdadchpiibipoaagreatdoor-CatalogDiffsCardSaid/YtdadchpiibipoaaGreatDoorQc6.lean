/- Parts of the proof, merged: Z26, Z27, Z41, V29, W2, Z29, Z42, RMem, V27, V28, Z43. -/
import Derived.Test.YtdadchpiibipoaaGreatDoorQc5
import Derived.Test.YtdadchpiibipoaaGreatDoorQc2
import Derived.Test.YtdadchpiibipoaaGreatDoorRows
import Derived.Test.YtdadchpiibipoaaGreatDoorQc1
import Derived.Test.YtdadchpiibipoaaGreatDoorQc4
import Derived.Deep.RegionHeld3

set_option maxRecDepth 100000
namespace Go.Proofs.YtdadchpiibipoaaGreatDoor
section
open Go.RowKit Go.Sort Go.ChangeMaps Go.WideShapes

theorem updInfo : (Tryz.prog.info? 53).map (fun i => (i.zero, i.size, i.bytes)) = some (some (.agg #[.bool false, .string ⟨#[]⟩, .slice none 0 0]), 3, 48) := by kernel_rfl
theorem runXUpd {w : World} (ty : TypeId) (base : Nat) (v : Value) (n : Nat) (xs : List Value) (hown : w.ownsRow base 53 3 v n xs)
    (A : Option Addr) (m C : Nat) (news : List Value) (hl : news.length = m * 3) (hz : Sl w.heap.size w A news) (h1 : ∀ u ∈ news, u.oneCell' = true) (hn : n + m ≤ 1000000) (hbase : base ≤ w.heap.size) :
    ∃ v' w', (Builtin.append_ #[23, 23] ty #[v, .slice A m C]).run Tryz.prog w = .ok v' w' ∧ w'.ownsRow base 53 3 v' (n + m) (xs ++ news) ∧ w.grownBy w' v.ownBlock ∧ (∀ b, v'.ownBlock = some b → v.ownBlock = some b ∨ b = w.heap.size) := by
  obtain ⟨i0, hi0, hz0, hz1, hz2⟩ := info_parts updInfo
  rcases A with _ | ad
  · have hy : m = 0 := by
      rcases Nat.eq_zero_or_pos m with h | h
      · exact h
      · obtain ⟨b, o, e', hb, hc⟩ := hz (fun h0 => by rw [h0] at hl; simp only [List.length_nil] at hl; omega)
        cases e'
    subst hy
    obtain rfl : news = [] := List.eq_nil_of_length_eq_zero (by rw [hl, Nat.zero_mul])
    exact ⟨v, w, run_append_none (P := Tryz.prog) w base 23 ty 53 i0 3 Tryz.underlying23 hi0 v n xs hown C, by simpa using hown, ⟨rfl, rfl, rfl, Nat.le_refl _, fun _ _ _ => rfl⟩, fun b hb => .inl hb⟩
  · have hcell : ∀ j u, news[j]? = some u → w.cell? (ad.add j) = some u := fun j u hu => by
      obtain ⟨b, o, e', hb, hc⟩ := hz (by intro h0; rw [h0] at hu; simp at hu)
      injection e' with e'
      subst e'
      rw [Addr.add_lit]
      exact hc j u hu
    obtain ⟨v', w', hrun, k2, k3, _, k5⟩ := run_append_own_at (P := Tryz.prog) w base 23 ty 53 i0 _ 3 48 Tryz.underlying23 hi0 hz0 hz1 hz2 rfl (by decide) v n xs hown ad m C news hl hcell h1 (by simp only [maxLen]; omega) (by omega) hbase
    exact ⟨v', w', hrun, k2, k3, fun b hb => by
      rcases k5 with k5 | k5
      · exact .inl (by rw [← k5]; exact hb)
      · rw [k5] at hb; injection hb with hb; exact .inr hb.symm⟩
theorem appXUpd {w : World} {ops : Array Oper} {rest : List Oper} {o : Oper} {a : Act} {Q : Exit → Act → World → Prop} (hgd : o.guard = none) (s x : Operand)
    (ho : o.op = .call { callee := .builtin .append, args := #[s, x], argTypes := #[23, 23] })
    (base : Nat) (v : Value) (n : Nat) (xs : List Value) (hs0 : a.eval s = v) (hown : w.ownsRow base 53 3 v n xs)
    (A : Option Addr) (m C : Nat) (news : List Value) (hx : a.eval x = .slice A m C) (hl : news.length = m * 3) (hz : Sl w.heap.size w A news) (h1 : ∀ u ∈ news, u.oneCell' = true)
    (hn : n + m ≤ 1000000) (hbase : base ≤ w.heap.size)
    (h : ∀ v' w', w'.ownsRow base 53 3 v' (n + m) (xs ++ news) → w.grownBy w' v.ownBlock → (∀ b, v'.ownBlock = some b → v.ownBlock = some b ∨ b = w.heap.size) → wpList Tryz.prog ops Q rest (a.put o.dst v') w') : wpList Tryz.prog ops Q (o :: rest) a w := by
  refine wpList_plain hgd fun K hK => ?_
  obtain ⟨v', w', hrun, k2, k3, k4⟩ := runXUpd o.type base v n xs hown A m C news hl hz h1 hn hbase
  unfold Oper.wp execOp
  simp only [ho, resolve, invoke, builtin, Sem.run_bind, Sem.run_pure, Result.andThen_ok, List.map_toArray, List.map_cons, List.map_nil, hs0, hx, hrun]
  exact hK _ _ (h v' w' k2 k3 k4)
theorem stepXUpd {w : World} {ops : Array Oper} {o : Oper} {a : Act} {K : Act → World → Prop} {Q : Exit → Act → World → Prop} {E : Prop} (hgd : o.guard = none) (s x : Operand)
    (ho : o.op = .call { callee := .builtin .append, args := #[s, x], argTypes := #[23, 23] })
    (base : Nat) (v : Value) (n : Nat) (xs : List Value) (hs0 : a.eval s = v) (hown : w.ownsRow base 53 3 v n xs)
    (A : Option Addr) (m C : Nat) (news : List Value) (hx : a.eval x = .slice A m C) (hl : news.length = m * 3) (hz : Sl w.heap.size w A news) (h1 : ∀ u ∈ news, u.oneCell' = true)
    (hn : n + m ≤ 1000000) (hbase : base ≤ w.heap.size)
    (h : ∀ v' w', w'.ownsRow base 53 3 v' (n + m) (xs ++ news) → w.grownBy w' v.ownBlock → (∀ b, v'.ownBlock = some b → v.ownBlock = some b ∨ b = w.heap.size) → K (a.put o.dst v') w') :
    if Region.wanted o (yielded ops a.tmps) = true then Oper.wp Tryz.prog o a w K Q else E := by
  obtain ⟨v', w', hrun, k2, k3, k4⟩ := runXUpd o.type base v n xs hown A m C news hl hz h1 hn hbase
  have hw : Region.wanted o (yielded ops a.tmps) = true := by unfold Region.wanted; rw [hgd]
  rw [if_pos hw]
  unfold Oper.wp execOp
  simp only [ho, resolve, invoke, builtin, Sem.run_bind, Sem.run_pure, Result.andThen_ok, List.map_toArray, List.map_cons, List.map_nil, hs0, hx, hrun]
  exact h v' w' k2 k3 k4
structure UpdCs (B : Nat) (w : World) (us : List Upd) (cs : List Value) : Prop where
  len : cs.length = us.length * 3
  one : ∀ u ∈ cs, u.oneCell' = true
  at_ : ∀ i (h : i < us.length), ∃ RA RC, cs[i * 3]? = some (.bool us[i].del) ∧ cs[i * 3 + 1]? = some (.string us[i].rel) ∧ cs[i * 3 + 2]? = some (.slice RA us[i].row.length RC) ∧ SlR B w RA us[i].row
theorem UpdCs.nil {B : Nat} {w : World} : UpdCs B w [] [] := ⟨rfl, fun u hu => (by cases hu), fun i hi => absurd hi (Nat.not_lt_zero _)⟩
theorem UpdCs.below {B C : Nat} {w w' : World} {us : List Upd} {cs : List Value} (h : UpdCs B w us cs) (hb : Below C w w') (hC : B ≤ C) : UpdCs B w' us cs :=
  ⟨h.len, h.one, fun i hi => by obtain ⟨RA, RC, a, b, c, d⟩ := h.at_ i hi; exact ⟨RA, RC, a, b, c, d.below hb hC⟩⟩
theorem UpdCs.more {B B' : Nat} {w : World} {us : List Upd} {cs : List Value} (h : UpdCs B w us cs) (hB : B ≤ B') : UpdCs B' w us cs :=
  ⟨h.len, h.one, fun i hi => by obtain ⟨RA, RC, a, b, c, d⟩ := h.at_ i hi; exact ⟨RA, RC, a, b, c, d.more hB⟩⟩
theorem UpdCs.append {B : Nat} {w : World} {us vs : List Upd} {cs ds : List Value} (h : UpdCs B w us cs) (k : UpdCs B w vs ds) : UpdCs B w (us ++ vs) (cs ++ ds) := by
  refine ⟨by rw [List.length_append, List.length_append, h.len, k.len, Nat.add_mul], fun u hu => ?_, fun i hi => ?_⟩
  · rcases List.mem_append.1 hu with hu | hu
    · exact h.one u hu
    · exact k.one u hu
  · by_cases hiu : i < us.length
    · obtain ⟨RA, RC, a, b, c, d⟩ := h.at_ i hiu
      have hl := h.len
      refine ⟨RA, RC, ?_, ?_, ?_, ?_⟩
      · rw [List.getElem?_append_left (by omega), List.getElem_append_left hiu]; exact a
      · rw [List.getElem?_append_left (by omega), List.getElem_append_left hiu]; exact b
      · rw [List.getElem?_append_left (by omega), List.getElem_append_left hiu]; exact c
      · rw [List.getElem_append_left hiu]; exact d
    · rw [List.length_append] at hi
      obtain ⟨RA, RC, a, b, c, d⟩ := k.at_ (i - us.length) (by omega)
      have hl := h.len
      have e0 : i * 3 - cs.length = (i - us.length) * 3 := by omega
      have e1 : i * 3 + 1 - cs.length = (i - us.length) * 3 + 1 := by omega
      have e2 : i * 3 + 2 - cs.length = (i - us.length) * 3 + 2 := by omega
      have hge : us.length ≤ i := by omega
      refine ⟨RA, RC, ?_, ?_, ?_, ?_⟩
      · rw [List.getElem?_append_right (by omega), e0, List.getElem_append_right hge]; exact a
      · rw [List.getElem?_append_right (by omega), e1, List.getElem_append_right hge]; exact b
      · rw [List.getElem?_append_right (by omega), e2, List.getElem_append_right hge]; exact c
      · rw [List.getElem_append_right hge]; exact d
theorem UpdCs.one1 {B : Nat} {w : World} (u : Upd) (RA : Option Addr) (RC : Nat) (h : SlR B w RA u.row) : UpdCs B w [u] [.bool u.del, .string u.rel, .slice RA u.row.length RC] := by
  refine ⟨rfl, fun x hx => ?_, fun i hi => ?_⟩
  · simp at hx
    rcases hx with rfl | rfl | rfl <;> rfl
  · obtain rfl : i = 0 := by simp at hi; exact hi
    exact ⟨RA, RC, rfl, rfl, rfl, h⟩
theorem UpdsM.of_cs {B : Nat} {w : World} {A : Option Addr} {us : List Upd} {cs : List Value} (h : UpdCs B w us cs) (hs : Sl B w A cs) : UpdsM B w A us := fun hn => by
  have hpos : 0 < us.length := List.length_pos_iff.2 hn
  have hl := h.len
  obtain ⟨b, o, rfl, hb, hc⟩ := hs (fun h0 => by rw [h0] at hl; simp only [List.length_nil] at hl; omega)
  exact ⟨b, o, rfl, hb, fun i hi => by
    obtain ⟨RA, RC, c0, c1, c2, c3⟩ := h.at_ i hi
    exact ⟨RA, RC, hc _ _ c0, by rw [Nat.add_assoc]; exact hc _ _ c1, by rw [Nat.add_assoc]; exact hc _ _ c2, c3⟩⟩
theorem own_updsM {w : World} {base : Nat} {v : Value} {n : Nat} {us : List Upd} {cs : List Value} (h : w.ownsRow base 53 3 v n cs) (hc : UpdCs w.heap.size w us cs) :
    ∃ A C, v = .slice A us.length C ∧ us.length ≤ C ∧ C ≤ 9223372036854775807 ∧ UpdsM w.heap.size w A us := by
  have hn : n = us.length := by have h1 := h.1; have h2 := hc.len; omega
  subst hn
  obtain ⟨A, C, e, h1, h2, h3⟩ := own_cut h (by decide)
  refine ⟨A, C, e, h1, h2, UpdsM.of_cs hc (fun hne => ?_)⟩
  obtain ⟨b, rfl, hb, hc⟩ := h3 hne
  exact ⟨b, 0, rfl, hb, fun i u hu => by rw [Nat.zero_add]; exact hc i u hu⟩
end
section
open Go.RowKit Go.Sort Go.ChangeMaps Go.WideShapes

-- snapshot.New of the zero database
theorem SchsM.more {B B' : Nat} {w : World} {A : Option Addr} {X : Sch} (h : SchsM B w A X) (hB : B ≤ B') : SchsM B' w A X := fun hn => by
  obtain ⟨b, o, e, hlt, hc⟩ := h hn
  exact ⟨b, o, e, Nat.lt_of_lt_of_le hlt hB, fun i hi => by
    obtain ⟨KA, KC, g0, g1, g2⟩ := hc i hi
    exact ⟨KA, KC, g0, g1, Sl.more g2 hB⟩⟩
end
section
open Go.RowKit Go.Sort Go.ChangeMaps Go.WideShapes

def minF (X Y : List RL.R) : List RL.R := X.filter fun x => !decide (x ∈ Y)
def diff1 (nm : ByteArray) (X Y : List RL.R) : List Upd := (minF X Y).map (fun x => (⟨true, nm, x⟩ : Upd)) ++ (minF Y X).map (fun x => (⟨false, nm, x⟩ : Upd))
def diffF (ns : List ByteArray) (F G : Cont) : List Upd := ns.flatMap fun nm => diff1 nm (F nm) (G nm)
def ContOk (S : Sch) (F : Cont) : Prop := ∀ p ∈ S, RL.SS (F p.1) ∧ (F p.1).length ≤ 4096 ∧ ∀ x ∈ F p.1, checkF S p.1 x = 0
theorem ContOk.zero {S : Sch} : ContOk S (fun _ => []) := fun _ _ => ⟨RL.ss_nil, Nat.zero_le _, fun x hx => by cases hx⟩
theorem updC_self (F : Cont) (nm : ByteArray) (X : List RL.R) : updC F nm X nm = X := if_pos rfl
theorem updC_ne (F : Cont) {nm s : ByteArray} (X : List RL.R) (h : s ≠ nm) : updC F nm X s = F s := if_neg h
theorem ContOk.step {S : Sch} {F : Cont} (h : ContOk S F) (u : Upd) : ContOk S (stepU S F u).2.1 := by
  unfold stepU
  by_cases h0 : checkF S u.rel u.row = 0
  · rw [if_pos h0]
    by_cases h1 : (updF u.del (F u.rel) u.row).1 = 0
    · rw [if_pos h1]
      show ContOk S (if (updF u.del (F u.rel) u.row).2.2 = true then updC F u.rel (updF u.del (F u.rel) u.row).2.1 else F)
      split
      · intro p hp
        by_cases e : p.1 = u.rel
        · obtain ⟨a, b, c⟩ := h p hp
          rw [e] at a b c
          rw [e, updC_self]
          unfold updF at h1 ⊢
          by_cases hd : u.del = true
          · rw [if_pos hd]
            exact ⟨a.del _, Nat.le_trans (List.length_filter_le _ _) b, fun x hx => c x ((RL.mem_delF _ _ _).1 hx).1⟩
          · rw [if_neg hd] at h1 ⊢
            by_cases hf : 4096 ≤ (F u.rel).length
            · rw [if_pos hf] at h1 ⊢
              by_cases hm : u.row ∈ F u.rel
              · rw [if_pos hm]; exact ⟨a, b, c⟩
              · rw [if_neg hm]; exact ⟨a, b, c⟩
            · rw [if_neg hf]
              refine ⟨a.ins _, by have := RL.insF_length_le (F u.rel) u.row; show (RL.insF (F u.rel) u.row).length ≤ 4096; omega, fun x hx => ?_⟩
              rcases (RL.mem_insF _ _ _).1 hx with hx | hx
              · exact c x hx
              · rw [hx]; exact h0
        · rw [updC_ne _ _ e]
          exact h p hp
      · exact h
    · rw [if_neg h1]; exact h
  · rw [if_neg h0]; exact h
theorem step_del {S : Sch} {H : Cont} {nm : ByteArray} {x : RL.R} (hc : checkF S nm x = 0) (hx : x ∈ H nm) : stepU S H ⟨true, nm, x⟩ = (0, updC H nm (RL.delF (H nm) x), true) := by
  unfold stepU updF
  simp only [hc, if_true, decide_eq_true hx]
theorem step_ins {S : Sch} {H : Cont} {nm : ByteArray} {x : RL.R} (hc : checkF S nm x = 0) (hx : x ∉ H nm) (hl : (H nm).length < 4096) : stepU S H ⟨false, nm, x⟩ = (0, updC H nm (RL.insF (H nm) x), true) := by
  have h4 : ¬ 4096 ≤ (H nm).length := by omega
  unfold stepU updF
  simp only [hc, if_true, decide_eq_false hx, Bool.false_eq_true, if_false, if_neg h4, Bool.not_false]
theorem del_run {S : Sch} {nm : ByteArray} : ∀ (D : List RL.R) (H : Cont) (n : Nat), (∀ x ∈ D, checkF S nm x = 0 ∧ x ∈ H nm) → D.Nodup → RL.SS (H nm) →
    ∃ H', applyF S H n (D.map fun x => (⟨true, nm, x⟩ : Upd)) = (0, H', n + D.length) ∧ RL.SS (H' nm) ∧ (∀ r, r ∈ H' nm ↔ r ∈ H nm ∧ r ∉ D) ∧ ∀ s, s ≠ nm → H' s = H s
  | [], H, n, _, _, hs => ⟨H, rfl, hs, fun r => by simp, fun _ _ => rfl⟩
  | x :: t, H, n, h, hn, hs => by
    obtain ⟨h1, h2⟩ := h x List.mem_cons_self
    have hn' := List.nodup_cons.1 hn
    obtain ⟨H', e, a, b, c⟩ := del_run t (updC H nm (RL.delF (H nm) x)) (n + 1) (fun y hy => ⟨(h y (List.mem_cons_of_mem _ hy)).1, by
      rw [updC_self]
      exact (RL.mem_delF _ _ _).2 ⟨(h y (List.mem_cons_of_mem _ hy)).2, fun e => hn'.1 (e ▸ hy)⟩⟩) hn'.2 (by rw [updC_self]; exact hs.del _)
    refine ⟨H', ?_, a, fun r => ?_, fun s hsn => (c s hsn).trans (updC_ne _ _ hsn)⟩
    · rw [List.map_cons]
      unfold applyF
      rw [step_del h1 h2]
      simp only [if_true]
      rw [e, List.length_cons]
      congr 2
      omega
    · rw [b, updC_self, RL.mem_delF, List.mem_cons]
      constructor
      · rintro ⟨⟨p, q⟩, s⟩; exact ⟨p, fun h => h.elim q s⟩
      · rintro ⟨p, q⟩; exact ⟨⟨p, fun h => q (.inl h)⟩, fun h => q (.inr h)⟩
theorem ins_run {S : Sch} {nm : ByteArray} : ∀ (I : List RL.R) (H : Cont) (n : Nat), (∀ x ∈ I, checkF S nm x = 0 ∧ x ∉ H nm) → I.Nodup → RL.SS (H nm) → (H nm).length + I.length ≤ 4096 →
    ∃ H', applyF S H n (I.map fun x => (⟨false, nm, x⟩ : Upd)) = (0, H', n + I.length) ∧ RL.SS (H' nm) ∧ (∀ r, r ∈ H' nm ↔ r ∈ H nm ∨ r ∈ I) ∧ ∀ s, s ≠ nm → H' s = H s
  | [], H, n, _, _, hs, _ => ⟨H, rfl, hs, fun r => by simp, fun _ _ => rfl⟩
  | x :: t, H, n, h, hn, hs, hl => by
    obtain ⟨h1, h2⟩ := h x List.mem_cons_self
    have hn' := List.nodup_cons.1 hn
    rw [List.length_cons] at hl
    have hil := RL.insF_length_le (H nm) x
    obtain ⟨H', e, a, b, c⟩ := ins_run t (updC H nm (RL.insF (H nm) x)) (n + 1) (fun y hy => ⟨(h y (List.mem_cons_of_mem _ hy)).1, by
      rw [updC_self, RL.mem_insF]
      rintro (h5 | h5)
      · exact (h y (List.mem_cons_of_mem _ hy)).2 h5
      · exact hn'.1 (h5 ▸ hy)⟩) hn'.2 (by rw [updC_self]; exact hs.ins _) (by rw [updC_self]; omega)
    refine ⟨H', ?_, a, fun r => ?_, fun s hsn => (c s hsn).trans (updC_ne _ _ hsn)⟩
    · rw [List.map_cons]
      unfold applyF
      rw [step_ins h1 h2 (by omega)]
      simp only [if_true]
      rw [e, List.length_cons]
      congr 2
      omega
    · rw [b, updC_self, RL.mem_insF, List.mem_cons, or_assoc]
theorem filter_add {α : Type} (p : α → Bool) : ∀ l : List α, (l.filter p).length + (l.filter fun x => !p x).length = l.length
  | [] => rfl
  | a :: t => by
    have := filter_add p t
    cases h : p a with
    | true => rw [List.filter_cons_of_pos h, List.filter_cons_of_neg (by rw [h]; decide), List.length_cons, List.length_cons]; omega
    | false => rw [List.filter_cons_of_neg (by rw [h]; decide), List.filter_cons_of_pos (by rw [h]; rfl), List.length_cons, List.length_cons]; omega
theorem mem_minF {X Y : List RL.R} {r : RL.R} : r ∈ minF X Y ↔ r ∈ X ∧ r ∉ Y := by simp [minF]
theorem applyF_app (X : Sch) : ∀ (us vs : List Upd) (F : Cont) (n : Nat), (applyF X F n us).1 = 0 → applyF X F n (us ++ vs) = applyF X (applyF X F n us).2.1 (applyF X F n us).2.2 vs
  | [], vs, F, n, _ => rfl
  | u :: t, vs, F, n, h => by
    by_cases h0 : (stepU X F u).1 = 0
    · have e : ∀ l, applyF X F n (u :: l) = applyF X (stepU X F u).2.1 (if (stepU X F u).2.2 then n + 1 else n) l := fun l => by
        show (if (stepU X F u).1 = 0 then _ else _) = _
        rw [if_pos h0]
      rw [List.cons_append, e, e]
      rw [e] at h
      exact applyF_app X t vs _ _ h
    · have e : (applyF X F n (u :: t)).1 = (stepU X F u).1 := by
        show (if (stepU X F u).1 = 0 then _ else ((stepU X F u).1, F, 0) : Int × Cont × Nat).1 = _
        rw [if_neg h0]
      exact absurd (e.symm.trans h) h0
theorem diff1_run {S : Sch} {nm : ByteArray} {X Y : List RL.R} {H : Cont} (n : Nat) (hH : H nm = X) (hX : RL.SS X) (hY : RL.SS Y) (hYl : Y.length ≤ 4096) (hcX : ∀ x ∈ X, checkF S nm x = 0) (hcY : ∀ x ∈ Y, checkF S nm x = 0) :
    ∃ H', applyF S H n (diff1 nm X Y) = (0, H', n + (diff1 nm X Y).length) ∧ H' nm = Y ∧ ∀ s, s ≠ nm → H' s = H s := by
  obtain ⟨H1, e1, s1, m1, o1⟩ := del_run (S := S) (nm := nm) (minF X Y) H n (fun x hx => ⟨hcX x (mem_minF.1 hx).1, by rw [hH]; exact (mem_minF.1 hx).1⟩) (hX.filter _).nodup (by rw [hH]; exact hX)
  have hm1 : ∀ r, r ∈ H1 nm ↔ r ∈ Y ∧ r ∈ X := fun r => by
    rw [m1, hH, mem_minF]
    constructor
    · rintro ⟨p, q⟩
      refine ⟨?_, p⟩
      rcases Classical.em (r ∈ Y) with h | h
      · exact h
      · exact absurd ⟨p, h⟩ q
    · rintro ⟨p, q⟩; exact ⟨q, fun h => h.2 p⟩
  have hH1 : H1 nm = Y.filter fun x => decide (x ∈ X) := RL.SS.ext s1 (hY.filter _) fun r => by rw [hm1]; simp
  obtain ⟨H2, e2, s2, m2, o2⟩ := ins_run (S := S) (nm := nm) (minF Y X) H1 (n + (minF X Y).length) (fun x hx => ⟨hcY x (mem_minF.1 hx).1, fun h => (mem_minF.1 hx).2 ((hm1 x).1 h).2⟩) (hY.filter _).nodup s1 (by
    rw [hH1]
    have := filter_add (fun x => decide (x ∈ X)) Y
    unfold minF
    omega)
  refine ⟨H2, ?_, RL.SS.ext s2 hY fun r => ?_, fun s hs => (o2 s hs).trans (o1 s hs)⟩
  · unfold diff1
    have ha : ∀ us vs : List Upd, (applyF S H n us).1 = 0 → applyF S H n (us ++ vs) = applyF S (applyF S H n us).2.1 (applyF S H n us).2.2 vs := fun us vs => applyF_app S us vs H n
    rw [ha _ _ (by rw [e1]), e1]
    show applyF S H1 (n + (minF X Y).length) _ = _
    rw [e2, List.length_append, List.length_map, List.length_map, Nat.add_assoc]
  · rw [m2, hm1, mem_minF]
    constructor
    · rintro (h | h)
      · exact h.1
      · exact h.1
    · intro h
      rcases Classical.em (r ∈ X) with h1 | h1
      · exact .inl ⟨h, h1⟩
      · exact .inr ⟨h, h1⟩
theorem diff_run {S : Sch} {F G : Cont} (hF : ContOk S F) (hG : ContOk S G) : ∀ (ns : List ByteArray), ns.Nodup → (∀ s ∈ ns, s ∈ S.map Prod.fst) → ∀ (H : Cont) (n : Nat), (∀ s ∈ ns, H s = F s) →
    ∃ H', applyF S H n (diffF ns F G) = (0, H', n + (diffF ns F G).length) ∧ (∀ s ∈ ns, H' s = G s) ∧ ∀ s, s ∉ ns → H' s = H s
  | [], _, _, H, n, _ => ⟨H, rfl, fun s hs => (by cases hs), fun _ _ => rfl⟩
  | nm :: t, hn, hs, H, n, hH => by
    have hn' := List.nodup_cons.1 hn
    obtain ⟨p, hp, rfl⟩ := List.mem_map.1 (hs nm List.mem_cons_self)
    obtain ⟨a1, a2, a3⟩ := hF p hp
    obtain ⟨b1, b2, b3⟩ := hG p hp
    obtain ⟨H1, e1, q1, o1⟩ := diff1_run n (hH p.1 List.mem_cons_self) a1 b1 b2 a3 b3
    obtain ⟨H2, e2, q2, o2⟩ := diff_run hF hG t hn'.2 (fun s hst => hs s (List.mem_cons_of_mem _ hst)) H1 (n + (diff1 p.1 (F p.1) (G p.1)).length) fun s hst => (o1 s fun e => hn'.1 (e ▸ hst)).trans (hH s (List.mem_cons_of_mem _ hst))
    refine ⟨H2, ?_, fun s hst => ?_, fun s hst => ?_⟩
    · show applyF S H n (diff1 p.1 (F p.1) (G p.1) ++ diffF t F G) = (0, H2, n + (diff1 p.1 (F p.1) (G p.1) ++ diffF t F G).length)
      rw [applyF_app S _ _ H n (by rw [e1]), e1]
      show applyF S H1 (n + (diff1 p.1 (F p.1) (G p.1)).length) _ = _
      rw [e2, List.length_append, Nat.add_assoc]
    · rcases List.mem_cons.1 hst with rfl | hst
      · exact (o2 _ hn'.1).trans q1
      · exact q2 s hst
    · exact (o2 s fun h => hst (List.mem_cons_of_mem _ h)).trans (o1 s fun e => hst (e ▸ List.mem_cons_self))
theorem diff1_len (nm : ByteArray) (X Y : List RL.R) : (diff1 nm X Y).length = (minF X Y).length + (minF Y X).length := by unfold diff1; rw [List.length_append, List.length_map, List.length_map]
end
section
open Go.RowKit Go.Sort

theorem take_eq_snoc {X Y : List RL.R} {k : Nat} (hx : k < X.length) (hy : k < Y.length) (h : X.take k = Y.take k) (e : X[k] = Y[k]) : X.take (k + 1) = Y.take (k + 1) := by
  rw [List.take_succ_eq_append_getElem hx, List.take_succ_eq_append_getElem hy, h, e]

set_option maxHeartbeats 1000000 in
theorem equalFunc_any (XA YA : Option Addr) (XC YC : Nat) (X Y : List RL.R) (w : World) (hX : SlRs w.heap.size w XA X) (hY : SlRs w.heap.size w YA Y) (_hXl : X.length ≤ 1000000) (hYl : Y.length ≤ 1000000) (hXo : RsOk X) (hYo : RsOk Y) :
    Calls Tryz.prog 82 #[.slice XA X.length XC, .slice YA Y.length YC, .func (.func 83) #[] #[]] w fun e w' => e = .returned (.bool (decide (X = Y))) ∧ Ext w w' := by
  have HX := Lib.hid hX
  have HY := Lib.hid hY
  have HXO := Lib.hid hXo
  have HYO := Lib.hid hYo
  clear hX hY hXo hYo
  by_cases hl : X.length = Y.length
  rotate_left
  · have HD : Hid (decide (X = Y) = false) := by show _ = _; simp only [decide_eq_false_iff_not]; intro e; exact hl (by rw [e])
    have hl2 : ((X.length : Int) != (Y.length : Int)) = true := by simp; omega
    clear hl
    go_enter Tryz.func82, Tryz.ntmps82
    go_wp2
    go_ret
    exact ⟨by rw [HD.out]; rfl, Ext.refl _⟩
  have eg : ∀ args w, (callFunc 83 args).run Tryz.prog w = .ok (.enter 83 args) w := enters_of Tryz.func83 (by kernel_rfl) rfl
  have HL := Lib.hid hl
  rw [← hl]
  have hYX : X.length ≤ Y.length := by omega
  clear hl
  go_enter Tryz.func82, Tryz.ntmps82
  go_wp2
  go_loopw [17] (fun i wr => ∃ k : Nat, k ≤ X.length ∧ i = .int .i64 k ∧ X.take k = Y.take k ∧ Ext w wr) (fun i _ => X.length - (intOf i).toNat)
  case atStart => exact ⟨0, Nat.zero_le _, rfl, by simp, Ext.refl _⟩
  case round =>
    obtain ⟨k, hka, rfl, htk, hext⟩ := hrel
    have HT := Lib.hid htk
    have HE := Lib.hid hext
    have hzz := hext.size
    clear htk
    by_cases h1 : k < X.length
    · obtain ⟨b, o, A1, C1, rfl, hb, c1, -, -, s1⟩ := slRs_at HX.out h1
      obtain ⟨b2, o2, A2, C2, rfl, hb2, c2, -, -, s2⟩ := slRs_at HY.out (show k < Y.length by omega)
      have d1 := (hext.cell (o := o + k) hb).trans c1
      have d2 := (hext.cell (o := o2 + k) hb2).trans c2
      have HC := Lib.hid (rwEqual_any A1 A2 C1 C2 X[k] Y[k] wr (s1.up hext) (s2.up hext) (HXO.out.at_ h1).1 (HYO.out.at_ (show k < Y.length by omega)).1)
      have hkY : k < Y.length := by omega
      have HN := Lib.hid (fun (e : X[k] = Y[k]) => take_eq_snoc h1 hkY HT.out e)
      have HNE : Hid (X[k] ≠ Y[k] → decide (X = Y) = false) := fun hne => by
        simp only [decide_eq_false_iff_not]
        intro e
        subst e
        exact hne rfl
      clear c1 c2 s1 s2 hext
      generalize X[k] = x at *
      generalize Y[k] = y at *
      go_wp2_with fail
      refine HC.out.mono ?_
      rintro e w1 ⟨rfl, hx1⟩
      have HE1 := Lib.hid (HE.out.trans hx1)
      clear hx1 HC d1 d2
      by_cases hq : x = y
      · have HN2 := Lib.hid (HN.out hq)
        have hd : decide (x = y) = true := by simpa using hq
        rw [hd]
        clear hq hd HN HNE
        go_wp2
        go_roundw
        case rel => exact ⟨k + 1, by omega, by go_num, HN2.out, HE1.out⟩
        case measure => simp [intOf]; omega
      · have HN2 := Lib.hid (HNE.out hq)
        have hd : decide (x = y) = false := by simpa using hq
        rw [hd]
        clear hq hd HN HNE
        go_wp2
        go_ret
        exact ⟨by rw [HN2.out]; rfl, HE1.out⟩
    · have HD : Hid (decide (X = Y) = true) := by
        show _ = _
        have := HT.out
        rw [List.take_of_length_le (show X.length ≤ k by omega), List.take_of_length_le (show Y.length ≤ k by have := HL.out; omega)] at this
        simpa using this
      go_wp2
      go_ret
      exact ⟨by rw [HD.out]; rfl, HE.out⟩

set_option maxHeartbeats 1000000 in
theorem rlEqual_any (n m : Int) (XA YA : Option Addr) (XC YC : Nat) (X Y : List RL.R) (w : World) (hX : SlRs w.heap.size w XA X) (hY : SlRs w.heap.size w YA Y) (hXl : X.length ≤ 1000000) (hYl : Y.length ≤ 1000000) (hXo : RsOk X) (hYo : RsOk Y) :
    Calls Tryz.prog 54 #[.agg #[.int .i64 n, .slice XA X.length XC], .agg #[.int .i64 m, .slice YA Y.length YC]] w fun e w' => e = .returned (.bool (decide (n = m) && decide (X = Y))) ∧ Ext w w' := by
  have HC := Lib.hid (fun (W : World) (h : Ext w W) => equalFunc_any XA YA XC YC X Y W (hX.up h) (hY.up h) hXl hYl hXo hYo)
  clear hX hY hXo hYo
  by_cases hn : n = m
  · subst hn
    go_enter Tryz.func54, Tryz.ntmps54
    go_wp2_with fail
    refine (HC.out _ (((Ext.refl w).alloc _).alloc _)).mono ?_
    rintro e w1 ⟨rfl, hx1⟩
    have HE := Lib.hid ((((Ext.refl w).alloc _).alloc _).trans hx1)
    clear hx1
    obtain ⟨q, hq⟩ : ∃ q, q = decide (X = Y) := ⟨_, rfl⟩
    rw [← hq]
    have HQ := Lib.hid hq
    clear hq
    go_wp2
    go_ret
    exact ⟨by rw [← HQ.out]; simp, HE.out⟩
  · have h1 : (n == m) = false := by simpa using hn
    have HN : Hid (decide (n = m) = false) := by show _ = _; simpa using hn
    clear hn
    go_enter Tryz.func54, Tryz.ntmps54
    go_wp2
    go_ret
    exact ⟨by rw [HN.out]; rfl, ((Ext.refl w).alloc _).alloc _⟩
end
section
open Go.RowKit

theorem take_eq_of {xs ys : List Int} {k : Nat} (hl : xs.length = ys.length) (h : ∀ i (_h1 : i < k) (h2 : i < xs.length) (h3 : i < ys.length), xs[i] = ys[i]) (hk : xs.length ≤ k) : xs = ys := by
  apply List.ext_getElem hl
  intro i h2 h3
  exact h i (by omega) h2 h3

set_option maxHeartbeats 400000 in
theorem eqInt_any (XA YA : Option Addr) (XC YC : Nat) (xs ys : List Int) (w : World)
    (hx : SlI .i64 w.heap.size w XA xs) (hy : SlI .i64 w.heap.size w YA ys) (hxl : xs.length ≤ 1000000) (hyl : ys.length ≤ 1000000) :
    Calls Tryz.prog 53 #[.slice XA xs.length XC, .slice YA ys.length YC] w fun e w' => e = .returned (.bool (decide (xs = ys))) ∧ ∃ n, w' = w.drewN n := by
  by_cases hl : xs.length = ys.length
  rotate_left
  · have hd : decide (xs = ys) = false := by
      simp; intro h; subst h; exact hl rfl
    rw [hd]
    clear hx hy hd
    generalize xs.length = m at *
    generalize ys.length = n at *
    have hne : ((m : Int) != (n : Int)) = true := by simp; omega
    clear hl
    go_enter Tryz.func53, Tryz.ntmps53
    go_wp2
    go_ret
    exact ⟨rfl, 0, rfl⟩
  have hne : ((xs.length : Int) != (ys.length : Int)) = false := by simp; omega
  have HL := Lib.hid hl
  clear hl
  go_enter Tryz.func53, Tryz.ntmps53
  go_wp2
  go_loopw [13] (fun i wr => ∃ k : Nat, k ≤ xs.length ∧ i = .int .i64 k ∧ (∀ i (h1 : i < k) (h2 : i < xs.length) (h3 : i < ys.length), xs[i] = ys[i]) ∧ (∃ n, wr = w.drewN n)) (fun i _ => xs.length - (intOf i).toNat)
  case atStart => exact ⟨0, Nat.zero_le _, rfl, fun i h => absurd h (by omega), 0, rfl⟩
  case round =>
    obtain ⟨k, hk, rfl, hall, n, rfl⟩ := hrel
    have HA := Lib.hid hall
    clear hall
    by_cases hlt : k < xs.length
    · have hlt' : k < ys.length := by have := HL.out; omega
      obtain ⟨b, o, rfl, hbb, hc⟩ := slI_at hx hlt
      obtain ⟨b', o', rfl, hbb', hc'⟩ := slI_at hy hlt'
      generalize hxk : xs[k] = xk at *
      generalize hyk : ys[k] = yk at *
      have HX := Lib.hid hxk
      have HY := Lib.hid hyk
      clear hxk hyk hx hy
      by_cases heq : xk = yk
      · have hne2 : (xk != yk) = false := by simp [heq]
        have HE := Lib.hid heq
        clear heq
        go_wp2
        go_quiet (fail)
        go_wp2
        go_roundw
        case rel =>
          refine ⟨k + 1, by omega, by go_num, ?_, _, rfl⟩
          intro i h1 h2 h3
          by_cases hik : i < k
          · exact HA.out i hik h2 h3
          · obtain rfl : i = k := by omega
            rw [HX.out, HY.out, HE.out]
        case measure => simp [intOf]; omega
      · have hne2 : (xk != yk) = true := by simp [heq]
        have hd : decide (xs = ys) = false := by
          simp; intro h; subst h
          exact heq (HX.out.symm.trans HY.out)
        have HD := Lib.hid hd
        clear heq hd
        go_wp2
        go_quiet (fail)
        go_wp2
        go_ret
        exact ⟨ret_bool HD.out.symm, _, World.drewN_drewN _ _ _⟩
    · have hd : decide (xs = ys) = true := by
        simp; exact take_eq_of HL.out HA.out (by omega)
      have HD := Lib.hid hd
      clear hd hx hy
      go_wp2
      go_ret
      exact ⟨ret_bool HD.out.symm, _, rfl⟩
end
section
open Go.RowKit Go.Sort Go.ChangeMaps Go.WideShapes

set_option maxHeartbeats 4000000 in
theorem ctEqual1_any (KA KA' A A' : Option Addr) (KC KC' C C' n : Nat) (ks : List Int) (X Y : List RL.R) (w : World) (hn : ks.length = n) (hk : SlI .i64 w.heap.size w KA ks) (hk' : SlI .i64 w.heap.size w KA' ks) (hX : SlRs w.heap.size w A X) (hY : SlRs w.heap.size w A' Y)
    (hkl : n ≤ 1000000) (hXl : X.length ≤ 1000000) (hYl : Y.length ≤ 1000000) (hXo : RsOk X) (hYo : RsOk Y) :
    Calls Tryz.prog 52 #[.agg #[.slice KA n KC, .int .i64 (n : Nat), .slice A X.length C], .agg #[.slice KA' n KC', .int .i64 (n : Nat), .slice A' Y.length C']] w fun e w' => e = .returned (.bool (decide (X = Y))) ∧ Ext w w' := by
  obtain ⟨W0, hW0⟩ : ∃ W0, W0 = (w.alloc (.cells #[.slice KA n KC, .int .i64 (n : Nat), .slice A X.length C] 99)).alloc (.cells #[.slice KA' n KC', .int .i64 (n : Nat), .slice A' Y.length C'] 99) := ⟨_, rfl⟩
  have hx0 : Ext w W0 := by rw [hW0]; exact ((Ext.refl w).alloc _).alloc _
  have hr1 : Row W0 w.heap.size 99 [.slice KA n KC, .int .i64 (n : Nat), .slice A X.length C] := by rw [hW0]; exact (Row.new w 99 _).alloc _
  have hr2 : Row W0 (w.heap.size + 1) 99 [.slice KA' n KC', .int .i64 (n : Nat), .slice A' Y.length C'] := by
    have h := Row.new (w.alloc (.cells #[.slice KA n KC, .int .i64 (n : Nat), .slice A X.length C] 99)) 99 [.slice KA' n KC', .int .i64 (n : Nat), .slice A' Y.length C']
    rw [World.size_alloc] at h
    rw [hW0]; exact h
  have h1 := eqInt_any KA KA' KC KC' ks ks W0 ((hk.ext (Nat.le_refl _) hx0).more hx0.size) ((hk'.ext (Nat.le_refl _) hx0).more hx0.size) (by omega) (by omega)
  rw [hn, decide_eq_true (show ks = ks from rfl)] at h1
  have HE := Lib.hid h1
  have HQ : Hid (∀ k, Calls Tryz.prog 54 #[.agg #[.int .i64 (n : Nat), .slice A X.length C], .agg #[.int .i64 (n : Nat), .slice A' Y.length C']] (W0.drewN k) fun e w' => e = .returned (.bool (decide (X = Y))) ∧ Ext (W0.drewN k) w') := fun k => by
    have hx := hx0.drewN k
    have h := rlEqual_any (n : Nat) (n : Nat) A A' C C' X Y (W0.drewN k) (hX.up hx) (hY.up hx) hXl hYl hXo hYo
    rw [decide_eq_true (show ((n : Nat) : Int) = (n : Nat) from rfl), Bool.true_and] at h
    exact h
  have HX0 := Lib.hid hx0
  have HW0 := Lib.hid hW0
  have k0 : W0.cell? ⟨w.heap.size, 0, none⟩ = some (.slice KA n KC) := hr1.cell 0
  have k1 : W0.cell? ⟨w.heap.size, 1, none⟩ = some (.int .i64 (n : Nat)) := hr1.cell 1
  have k2 : W0.cell? ⟨w.heap.size, 2, none⟩ = some (.slice A X.length C) := hr1.cell 2
  have k3 := hr1.lt
  have k4 : W0.cell? ⟨w.heap.size + 1, 0, none⟩ = some (.slice KA' n KC') := hr2.cell 0
  have k5 : W0.cell? ⟨w.heap.size + 1, 1, none⟩ = some (.int .i64 (n : Nat)) := hr2.cell 1
  have k6 : W0.cell? ⟨w.heap.size + 1, 2, none⟩ = some (.slice A' Y.length C') := hr2.cell 2
  have k7 := hr2.lt
  clear hW0 hx0 hr1 hr2 h1 hk hk' hX hY hXo hYo hn
  obtain ⟨q, hq⟩ : ∃ q, q = decide (X = Y) := ⟨_, rfl⟩
  rw [← hq] at HQ ⊢
  clear hq
  go_enter Tryz.func52, Tryz.ntmps52
  go_upto_region 1 with (fail)
  rw [← HW0.out]
  clear HW0
  go_wp2_with fail
  refine HE.out.mono ?_
  rintro e w1 ⟨rfl, k, rfl⟩
  go_wp2_with fail
  refine (HQ.out k).mono ?_
  rintro e w2 ⟨rfl, hx2⟩
  have HX2 := Lib.hid ((HX0.out.drewN k).trans hx2)
  clear hx2 HQ HE HX0 k0 k1 k2 k3 k4 k5 k6 k7
  go_wp2_with fail
  go_ret
  exact ⟨rfl, HX2.out⟩

def sameC (S : Sch) (F G : Cont) : Bool := S.all fun p => decide (F p.1 = G p.1)

set_option maxHeartbeats 8000000 in
theorem ctEqualFunc_any {P P' : Nat → Prop} {S : Sch} {m m' : Value} {F G : Cont} (w : World) (hd : DbM P S w m F) (hd' : DbM P' S w m' G) (_hnd : (S.map Prod.fst).Nodup) :
    Calls Tryz.prog 51 #[m, m', .func (.func 52) #[] #[]] w fun e w' => e = .returned (.bool (sameC S F G)) ∧ Below w.heap.size w w' := by
  obtain ⟨b, D, rfl, -, hown, hent⟩ := hd.ents
  obtain ⟨b', D', rfl, -, hown', hent'⟩ := hd'.ents
  have hl1 := fun ty => hown.len Tryz.underlying26 ty
  have hl2 := fun ty => hown'.len Tryz.underlying26 ty
  rw [hent.1] at hl1
  rw [hent'.1] at hl2
  have HENT := Lib.hid hent
  have HENT' := Lib.hid hent'
  have HOW := Lib.hid hown
  have HOW' := Lib.hid hown'
  have HALL0 : Hid (∀ p ∈ S, Maps.has D (litS p.1) = false → F p.1 = G p.1) := fun p hp h => by
    obtain ⟨v, g, _⟩ := hent.2.2 p hp
    rw [Maps.has_true_of_atKey g] at h
    cases h
  clear hd hd' hown hown' hent hent'
  go_enter Tryz.func51, Tryz.ntmps51
  go_wp2_with (first
    | (at_range; refine wpList_range_own _ rfl _ 26 rfl 9 99 keyedS Tryz.underlying26 heldR b (Maps.size D) D rfl HOW.out ?_; intro w0 hrg0 hg0 hs0)
    | fail)
  go_frame
  have HRG0 := Lib.hid hrg0
  have HB0 : Hid (Below w.heap.size w w0) := (Below.refl _ _).grown hg0 (Nat.le_refl _) (fun j hj => by cases hj)
  obtain ⟨r, hr⟩ : ∃ r, r = w.heap.size := ⟨_, rfl⟩
  rw [← hr] at HRG0 ⊢
  clear hrg0 hg0 hs0 hl1 hl2
  have eg : ∀ args w, (callFunc 52 args).run Tryz.prog w = .ok (.enter 52 args) w := enters_of Tryz.func52 (by kernel_rfl) rfl
  have hrw : w.heap.size ≤ r := by omega
  clear hr
  go_loopw [6] (fun c wx => ∃ (left : Lit → Bool) (cnt : Nat), c = .bool false ∧ (∀ p ∈ S, left (litS p.1) = false → F p.1 = G p.1) ∧ wx.ranges Tryz.prog 9 heldR b r (Maps.size D) D left cnt ∧ Below w.heap.size w wx) (fun _ wx => wx.rangeLeft b r)
  case atStart => exact ⟨_, _, rfl, HALL0.out, HRG0.out, HB0.out⟩
  case round =>
    obtain ⟨left, cnt, rfl, hall, hrg, hb⟩ := hrel
    have HALL := Lib.hid hall
    have HRG := Lib.hid hrg
    have HB := Lib.hid hb
    clear hall hb
    go_wp2_with (first
      | (at_next; refine wpList_next_ranges _ rfl _ rfl 9 keyedS heldR Value.string (fun v : Value => v) (fun key kl h => by obtain ⟨x, e⟩ := Maps.keyOf_string_inv Tryz.underlying9 h; exact ⟨x, e⟩) (fun v y _ => ⟨v, rfl⟩) b r (Maps.size D) D left cnt rfl HRG.out ?_ ?_)
      | fail)
    · intro hc0 hl0
      have HF : Hid (sameC S F G = true) := List.all_eq_true.2 fun p hp => decide_eq_true (HALL.out p hp (hl0 _))
      clear hc0 hl0 hrg
      go_wp2_with fail
      exact bodyPost_ret (v := .bool true) (by simp [results, Tryz.results51, go_sem]) rfl ⟨by rw [HF.out], HB.out⟩
    · intro nm c kl y ps w1 cnt1 hkey hlk hv hat hrg1 hlt hg1 hs1 hen
      have hy : y = .held c := by
        unfold heldR at hv
        injection hv with hv
        injection hv with hv
        exact hv.symm
      have hat2 : ∀ z, D.atKey kl z = .held c := fun z => (hat z).trans hy
      obtain ⟨p, hp, rfl⟩ := HENT.out.2.1 kl (Maps.has_true_of_atKey hat2)
      obtain ⟨val, hv1, KA, KC, A, C, rfl, hk6, hki, hxc, hxm, hsl, hro⟩ := HENT.out.2.2 p hp
      have hcv : DataW.held c = .held (.agg #[.slice KA p.2.length KC, .int .i64 (p.2.length : Nat), .slice A (F p.1).length C]) := (hat2 .nil).symm.trans (hv1 .nil)
      injection hcv with hcv
      subst hcv
      obtain ⟨val', hv2, KA', KC', A', C', rfl, -, hki', -, -, hsl', hro'⟩ := HENT'.out.2.2 p hp
      have HB1 : Hid (Below w.heap.size w w1) := HB.out.grown hg1 HB.out.size (fun j hj => by injection hj with hj; omega)
      have HRG1 := Lib.hid hrg1
      have HLE := Lib.hid (HRG.out.left_eq)
      have hlt2 := hlt
      have HLK : Hid (∀ V, Below w.heap.size w V → (Instr.lookup 26 (.map (some b')) (.string nm) true).run Tryz.prog V = .ok (.tuple #[.agg #[.slice KA' p.2.length KC', .int .i64 (p.2.length : Nat), .slice A' (G p.1).length C'], .bool true]) V) := fun V hb => (look_yes keyedS Tryz.underlying26 zeroEnt (map_up HOW'.out hb) hkey hv2).1
      have HEQ : Hid (∀ V, Below w.heap.size w V → Calls Tryz.prog 52 #[.agg #[.slice KA p.2.length KC, .int .i64 (p.2.length : Nat), .slice A (F p.1).length C], .agg #[.slice KA' p.2.length KC', .int .i64 (p.2.length : Nat), .slice A' (G p.1).length C']] V fun e w' => e = .returned (.bool (decide (F p.1 = G p.1))) ∧ Ext V w') := fun V hb =>
        ctEqual1_any KA KA' A A' KC KC' C C' p.2.length p.2 (F p.1) (G p.1) V rfl (Sl.more (Sl.below (SlIP.sl hki) hb (Nat.le_refl _)) hb.size) (Sl.more (Sl.below (SlIP.sl hki') hb (Nat.le_refl _)) hb.size) ((hsl.below hb (Nat.le_refl _)).more hb.size).sl ((hsl'.below hb (Nat.le_refl _)).more hb.size).sl (by omega) (Nat.le_trans hro.many (by decide)) (Nat.le_trans hro'.many (by decide)) (hro.rs (by omega)) (hro'.rs (by omega))
      have HNO : Hid (F p.1 ≠ G p.1 → sameC S F G = false) := fun h => List.all_eq_false.2 ⟨p, hp, by rw [decide_eq_false h]; decide⟩
      have HYES : Hid (F p.1 = G p.1 → ∀ q ∈ S, (left (litS q.1) && !(litS q.1).sameKey (litS p.1)) = false → F q.1 = G q.1) := fun h q hq hl => by
        rcases Bool.and_eq_false_iff.1 hl with hl | hl
        · exact HALL.out q hq hl
        · by_cases e : q.1 = p.1
          · rw [e]; exact h
          · rw [strike_ne e] at hl
            cases hl
      clear hkey hlk hv hat hrg1 hg1 hs1 hy hat2 hp hv1 hrg hlt hki hki' hxc hxm hsl hsl' hro hro' hv2 hk6
      generalize p.2.length = kn at *
      obtain ⟨LF, hLF⟩ : ∃ LF, LF = (F p.1).length := ⟨_, rfl⟩
      obtain ⟨LG, hLG⟩ : ∃ LG, LG = (G p.1).length := ⟨_, rfl⟩
      rw [← hLF] at hen HEQ ⊢
      rw [← hLG] at HLK HEQ
      clear hLF hLG
      obtain ⟨W2, hW2⟩ : ∃ W2, W2 = w1.alloc (.cells #[.slice KA kn KC, .int .i64 (kn : Nat), .slice A LF C] 99) := ⟨_, rfl⟩
      have hx2 : Ext w1 W2 := by rw [hW2]; exact (Ext.refl w1).alloc _
      have hr2 : Row W2 w1.heap.size 99 [.slice KA kn KC, .int .i64 (kn : Nat), .slice A LF C] := by rw [hW2]; exact Row.new w1 99 _
      have HB2 := Lib.hid (Below.then HB1.out hx2.below HB1.out.size)
      have hlk2 := HLK.out W2 HB2.out
      obtain ⟨W3, hW3⟩ : ∃ W3, W3 = W2.alloc (.cells #[.slice KA' kn KC', .int .i64 (kn : Nat), .slice A' LG C'] 99) := ⟨_, rfl⟩
      have hx3 : Ext W2 W3 := by rw [hW3]; exact (Ext.refl W2).alloc _
      have hr3 : Row W3 W2.heap.size 99 [.slice KA' kn KC', .int .i64 (kn : Nat), .slice A' LG C'] := by rw [hW3]; exact Row.new W2 99 _
      have hr23 := hr2.up hx3.below
      have HB3 := Lib.hid (Below.then HB2.out hx3.below HB2.out.size)
      have HRG3 := Lib.hid (ranges_up (ranges_up HRG1.out hx2.below) hx3.below)
      have e0 : W3.cell? ⟨w1.heap.size, 0, none⟩ = some (.slice KA kn KC) := hr23.cell 0
      have e1 : W3.cell? ⟨w1.heap.size, 1, none⟩ = some (.int .i64 (kn : Nat)) := hr23.cell 1
      have e2 : W3.cell? ⟨w1.heap.size, 2, none⟩ = some (.slice A LF C) := hr23.cell 2
      have e3 := hr23.lt
      have e4 : W3.cell? ⟨W2.heap.size, 0, none⟩ = some (.slice KA' kn KC') := hr3.cell 0
      have e5 : W3.cell? ⟨W2.heap.size, 1, none⟩ = some (.int .i64 (kn : Nat)) := hr3.cell 1
      have e6 : W3.cell? ⟨W2.heap.size, 2, none⟩ = some (.slice A' LG C') := hr3.cell 2
      have e7 := hr3.lt
      have HC := Lib.hid (HEQ.out W3 HB3.out)
      have HW2 := Lib.hid hW2
      have HW3 := Lib.hid hW3
      clear hx2 hx3 hr2 hr3 hr23 hW2 hW3 HRG1 HLK HEQ
      go_upto_region 6 with (fail)
      rw [← HW2.out]
      clear hen HW2
      go_upto_region 7 with (fail)
      rw [← HW3.out]
      clear HW3 hlk2
      go_wp2_with fail
      refine HC.out.mono ?_
      rintro e w4 ⟨rfl, hx4⟩
      have HB4 := Lib.hid (Below.then HB3.out hx4.below HB3.out.size)
      have HRG4 := Lib.hid (ranges_up HRG3.out hx4.below)
      clear hx4 HC e0 e1 e2 e3 e4 e5 e6 e7
      by_cases hq : F p.1 = G p.1
      · have HQ := Lib.hid (HYES.out hq)
        have hd : decide (F p.1 = G p.1) = true := decide_eq_true hq
        rw [hd]
        clear hq hd HYES HNO
        go_wp2
        go_roundw
        case rel => exact ⟨_, cnt1, rfl, HQ.out, HRG4.out, HB4.out⟩
        case measure => rw [HRG4.out.left_eq, HLE.out]; exact hlt2
      · have HQ := Lib.hid (HNO.out hq)
        have hd : decide (F p.1 = G p.1) = false := decide_eq_false hq
        rw [hd]
        clear hq hd HYES HNO
        go_wp2
        exact bodyPost_ret (v := .bool false) (by simp [results, Tryz.results51, go_sem]) rfl ⟨by rw [HQ.out], HB4.out⟩

set_option maxHeartbeats 2000000 in
theorem ctEqual_any {P P' : Nat → Prop} {S : Sch} {m m' : Value} {F G : Cont} (w : World) (hd : DbM P S w m F) (hd' : DbM P' S w m' G) (hnd : (S.map Prod.fst).Nodup) :
    Calls Tryz.prog 20 #[.agg #[m], .agg #[m']] w fun e w' => e = .returned (.bool (sameC S F G)) ∧ Below w.heap.size w w' := by
  obtain ⟨b, rfl⟩ := hd.form
  obtain ⟨b', rfl⟩ := hd'.form
  have HC := Lib.hid (fun V (hb : Below w.heap.size w V) => ctEqualFunc_any V (hd.up hb) (hd'.up hb) hnd)
  have hx := (((Ext.refl w).alloc (.cells #[.map (some b)] 28)).alloc (.cells #[.map (some b')] 28)).below
  have HX := Lib.hid hx
  clear hd hd' hx hnd
  go_enter Tryz.func20, Tryz.ntmps20
  go_wp2_with fail
  refine (HC.out _ HX.out).mono ?_
  rintro e w1 ⟨rfl, hb⟩
  have HB := Lib.hid (Below.then HX.out hb HX.out.size)
  clear hb HC
  go_wp2_with fail
  go_ret
  exact ⟨rfl, HB.out⟩
end
section
open Go.RowKit Go.Sort Go.ChangeMaps Go.WideShapes

set_option maxHeartbeats 4000000 in
theorem ctSame1_any (KA KA' A A' : Option Addr) (KC KC' C C' n x y : Nat) (ks : List Int) (w : World) (hn : ks.length = n) (hk : SlI .i64 w.heap.size w KA ks) (hk' : SlI .i64 w.heap.size w KA' ks) (hkl : n ≤ 1000000) :
    Calls Tryz.prog 95 #[.agg #[.slice KA n KC, .int .i64 (n : Nat), .slice A x C], .agg #[.slice KA' n KC', .int .i64 (n : Nat), .slice A' y C']] w fun e w' => e = .returned (.bool true) ∧ Ext w w' := by
  obtain ⟨W0, hW0⟩ : ∃ W0, W0 = (w.alloc (.cells #[.slice KA n KC, .int .i64 (n : Nat), .slice A x C] 99)).alloc (.cells #[.slice KA' n KC', .int .i64 (n : Nat), .slice A' y C'] 99) := ⟨_, rfl⟩
  have hx0 : Ext w W0 := by rw [hW0]; exact ((Ext.refl w).alloc _).alloc _
  have hr1 : Row W0 w.heap.size 99 [.slice KA n KC, .int .i64 (n : Nat), .slice A x C] := by rw [hW0]; exact (Row.new w 99 _).alloc _
  have hr2 : Row W0 (w.heap.size + 1) 99 [.slice KA' n KC', .int .i64 (n : Nat), .slice A' y C'] := by
    have h := Row.new (w.alloc (.cells #[.slice KA n KC, .int .i64 (n : Nat), .slice A x C] 99)) 99 [.slice KA' n KC', .int .i64 (n : Nat), .slice A' y C']
    rw [World.size_alloc] at h
    rw [hW0]; exact h
  have h1 := eqInt_any KA KA' KC KC' ks ks W0 ((hk.ext (Nat.le_refl _) hx0).more hx0.size) ((hk'.ext (Nat.le_refl _) hx0).more hx0.size) (by omega) (by omega)
  rw [hn, decide_eq_true (show ks = ks from rfl)] at h1
  have HE := Lib.hid h1
  have HX0 := Lib.hid hx0
  have HW0 := Lib.hid hW0
  have k0 : W0.cell? ⟨w.heap.size, 0, none⟩ = some (.slice KA n KC) := hr1.cell 0
  have k3 := hr1.lt
  have k4 : W0.cell? ⟨w.heap.size + 1, 0, none⟩ = some (.slice KA' n KC') := hr2.cell 0
  have k7 := hr2.lt
  clear hW0 hx0 hr1 hr2 h1 hk hk' hn
  go_enter Tryz.func95, Tryz.ntmps95
  go_upto_region 1 with (fail)
  rw [← HW0.out]
  clear HW0
  go_wp2_with fail
  refine HE.out.mono ?_
  rintro e w1 ⟨rfl, k, rfl⟩
  have HX2 := Lib.hid (HX0.out.drewN k)
  clear HE HX0 k0 k3 k4 k7
  go_wp2_with fail
  go_ret
  exact ⟨rfl, HX2.out⟩

set_option maxHeartbeats 8000000 in
theorem ctSameFunc_any {P P' : Nat → Prop} {S : Sch} {m m' : Value} {F G : Cont} (w : World) (hd : DbM P S w m F) (hd' : DbM P' S w m' G) (_hnd : (S.map Prod.fst).Nodup) :
    Calls Tryz.prog 51 #[m, m', .func (.func 95) #[] #[]] w fun e w' => e = .returned (.bool true) ∧ Below w.heap.size w w' := by
  obtain ⟨b, D, rfl, -, hown, hent⟩ := hd.ents
  obtain ⟨b', D', rfl, -, hown', hent'⟩ := hd'.ents
  have hl1 := fun ty => hown.len Tryz.underlying26 ty
  have hl2 := fun ty => hown'.len Tryz.underlying26 ty
  rw [hent.1] at hl1
  rw [hent'.1] at hl2
  have HENT := Lib.hid hent
  have HENT' := Lib.hid hent'
  have HOW := Lib.hid hown
  have HOW' := Lib.hid hown'
  clear hd hd' hown hown' hent hent'
  go_enter Tryz.func51, Tryz.ntmps51
  go_wp2_with (first
    | (at_range; refine wpList_range_own _ rfl _ 26 rfl 9 99 keyedS Tryz.underlying26 heldR b (Maps.size D) D rfl HOW.out ?_; intro w0 hrg0 hg0 hs0)
    | fail)
  go_frame
  have HRG0 := Lib.hid hrg0
  have HB0 : Hid (Below w.heap.size w w0) := (Below.refl _ _).grown hg0 (Nat.le_refl _) (fun j hj => by cases hj)
  obtain ⟨r, hr⟩ : ∃ r, r = w.heap.size := ⟨_, rfl⟩
  rw [← hr] at HRG0 ⊢
  clear hrg0 hg0 hs0 hl1 hl2
  have eg : ∀ args w, (callFunc 95 args).run Tryz.prog w = .ok (.enter 95 args) w := enters_of Tryz.func95 (by kernel_rfl) rfl
  have hrw : w.heap.size ≤ r := by omega
  clear hr
  go_loopw [6] (fun c wx => ∃ (left : Lit → Bool) (cnt : Nat), c = .bool false ∧ wx.ranges Tryz.prog 9 heldR b r (Maps.size D) D left cnt ∧ Below w.heap.size w wx) (fun _ wx => wx.rangeLeft b r)
  case atStart => exact ⟨_, _, rfl, HRG0.out, HB0.out⟩
  case round =>
    obtain ⟨left, cnt, rfl, hrg, hb⟩ := hrel
    have HRG := Lib.hid hrg
    have HB := Lib.hid hb
    clear hb
    go_wp2_with (first
      | (at_next; refine wpList_next_ranges _ rfl _ rfl 9 keyedS heldR Value.string (fun v : Value => v) (fun key kl h => by obtain ⟨x, e⟩ := Maps.keyOf_string_inv Tryz.underlying9 h; exact ⟨x, e⟩) (fun v y _ => ⟨v, rfl⟩) b r (Maps.size D) D left cnt rfl HRG.out ?_ ?_)
      | fail)
    · intro hc0 hl0
      clear hc0 hl0 hrg
      go_wp2_with fail
      exact bodyPost_ret (v := .bool true) (by simp [results, Tryz.results51, go_sem]) rfl ⟨rfl, HB.out⟩
    · intro nm c kl y ps w1 cnt1 hkey hlk hv hat hrg1 hlt hg1 hs1 hen
      have hy : y = .held c := by
        unfold heldR at hv
        injection hv with hv
        injection hv with hv
        exact hv.symm
      have hat2 : ∀ z, D.atKey kl z = .held c := fun z => (hat z).trans hy
      obtain ⟨p, hp, rfl⟩ := HENT.out.2.1 kl (Maps.has_true_of_atKey hat2)
      obtain ⟨val, hv1, KA, KC, A, C, rfl, hk6, hki, hxc, hxm, hsl, hro⟩ := HENT.out.2.2 p hp
      have hcv : DataW.held c = .held (.agg #[.slice KA p.2.length KC, .int .i64 (p.2.length : Nat), .slice A (F p.1).length C]) := (hat2 .nil).symm.trans (hv1 .nil)
      injection hcv with hcv
      subst hcv
      obtain ⟨val', hv2, KA', KC', A', C', rfl, -, hki', -, -, hsl', hro'⟩ := HENT'.out.2.2 p hp
      have HB1 : Hid (Below w.heap.size w w1) := HB.out.grown hg1 HB.out.size (fun j hj => by injection hj with hj; omega)
      have HRG1 := Lib.hid hrg1
      have HLE := Lib.hid (HRG.out.left_eq)
      have hlt2 := hlt
      have HLK : Hid (∀ V, Below w.heap.size w V → (Instr.lookup 26 (.map (some b')) (.string nm) true).run Tryz.prog V = .ok (.tuple #[.agg #[.slice KA' p.2.length KC', .int .i64 (p.2.length : Nat), .slice A' (G p.1).length C'], .bool true]) V) := fun V hb => (look_yes keyedS Tryz.underlying26 zeroEnt (map_up HOW'.out hb) hkey hv2).1
      have HEQ : Hid (∀ V, Below w.heap.size w V → Calls Tryz.prog 95 #[.agg #[.slice KA p.2.length KC, .int .i64 (p.2.length : Nat), .slice A (F p.1).length C], .agg #[.slice KA' p.2.length KC', .int .i64 (p.2.length : Nat), .slice A' (G p.1).length C']] V fun e w' => e = .returned (.bool true) ∧ Ext V w') := fun V hb =>
        ctSame1_any KA KA' A A' KC KC' C C' p.2.length (F p.1).length (G p.1).length p.2 V rfl (Sl.more (Sl.below (SlIP.sl hki) hb (Nat.le_refl _)) hb.size) (Sl.more (Sl.below (SlIP.sl hki') hb (Nat.le_refl _)) hb.size) (by omega)
      clear hkey hlk hv hat hrg1 hg1 hs1 hy hat2 hp hv1 hrg hlt hki hki' hxc hxm hsl hsl' hro hro' hv2 hk6
      generalize p.2.length = kn at *
      obtain ⟨LF, hLF⟩ : ∃ LF, LF = (F p.1).length := ⟨_, rfl⟩
      obtain ⟨LG, hLG⟩ : ∃ LG, LG = (G p.1).length := ⟨_, rfl⟩
      rw [← hLF] at hen HEQ ⊢
      rw [← hLG] at HLK HEQ
      clear hLF hLG
      obtain ⟨W2, hW2⟩ : ∃ W2, W2 = w1.alloc (.cells #[.slice KA kn KC, .int .i64 (kn : Nat), .slice A LF C] 99) := ⟨_, rfl⟩
      have hx2 : Ext w1 W2 := by rw [hW2]; exact (Ext.refl w1).alloc _
      have hr2 : Row W2 w1.heap.size 99 [.slice KA kn KC, .int .i64 (kn : Nat), .slice A LF C] := by rw [hW2]; exact Row.new w1 99 _
      have HB2 := Lib.hid (Below.then HB1.out hx2.below HB1.out.size)
      have hlk2 := HLK.out W2 HB2.out
      obtain ⟨W3, hW3⟩ : ∃ W3, W3 = W2.alloc (.cells #[.slice KA' kn KC', .int .i64 (kn : Nat), .slice A' LG C'] 99) := ⟨_, rfl⟩
      have hx3 : Ext W2 W3 := by rw [hW3]; exact (Ext.refl W2).alloc _
      have hr3 : Row W3 W2.heap.size 99 [.slice KA' kn KC', .int .i64 (kn : Nat), .slice A' LG C'] := by rw [hW3]; exact Row.new W2 99 _
      have hr23 := hr2.up hx3.below
      have HB3 := Lib.hid (Below.then HB2.out hx3.below HB2.out.size)
      have HRG3 := Lib.hid (ranges_up (ranges_up HRG1.out hx2.below) hx3.below)
      have e0 : W3.cell? ⟨w1.heap.size, 0, none⟩ = some (.slice KA kn KC) := hr23.cell 0
      have e1 : W3.cell? ⟨w1.heap.size, 1, none⟩ = some (.int .i64 (kn : Nat)) := hr23.cell 1
      have e2 : W3.cell? ⟨w1.heap.size, 2, none⟩ = some (.slice A LF C) := hr23.cell 2
      have e3 := hr23.lt
      have e4 : W3.cell? ⟨W2.heap.size, 0, none⟩ = some (.slice KA' kn KC') := hr3.cell 0
      have e5 : W3.cell? ⟨W2.heap.size, 1, none⟩ = some (.int .i64 (kn : Nat)) := hr3.cell 1
      have e6 : W3.cell? ⟨W2.heap.size, 2, none⟩ = some (.slice A' LG C') := hr3.cell 2
      have e7 := hr3.lt
      have HC := Lib.hid (HEQ.out W3 HB3.out)
      have HW2 := Lib.hid hW2
      have HW3 := Lib.hid hW3
      clear hx2 hx3 hr2 hr3 hr23 hW2 hW3 HRG1 HLK HEQ
      go_upto_region 6 with (fail)
      rw [← HW2.out]
      clear hen HW2
      go_upto_region 7 with (fail)
      rw [← HW3.out]
      clear HW3 hlk2
      go_wp2_with fail
      refine HC.out.mono ?_
      rintro e w4 ⟨rfl, hx4⟩
      have HB4 := Lib.hid (Below.then HB3.out hx4.below HB3.out.size)
      have HRG4 := Lib.hid (ranges_up HRG3.out hx4.below)
      clear hx4 HC e0 e1 e2 e3 e4 e5 e6 e7
      go_wp2
      go_roundw
      case rel => exact ⟨_, cnt1, rfl, HRG4.out, HB4.out⟩
      case measure => rw [HRG4.out.left_eq, HLE.out]; exact hlt2

set_option maxHeartbeats 2000000 in
theorem ctSameSchemas_any {P P' : Nat → Prop} {S : Sch} {m m' : Value} {F G : Cont} (w : World) (hd : DbM P S w m F) (hd' : DbM P' S w m' G) (hnd : (S.map Prod.fst).Nodup) :
    Calls Tryz.prog 69 #[.agg #[m], .agg #[m']] w fun e w' => e = .returned (.bool true) ∧ Below w.heap.size w w' := by
  obtain ⟨b, rfl⟩ := hd.form
  obtain ⟨b', rfl⟩ := hd'.form
  have HC := Lib.hid (fun V (hb : Below w.heap.size w V) => ctSameFunc_any V (hd.up hb) (hd'.up hb) hnd)
  have hx := (((Ext.refl w).alloc (.cells #[.map (some b)] 28)).alloc (.cells #[.map (some b')] 28)).below
  have HX := Lib.hid hx
  clear hd hd' hx hnd
  go_enter Tryz.func69, Tryz.ntmps69
  go_wp2_with fail
  refine (HC.out _ HX.out).mono ?_
  rintro e w1 ⟨rfl, hb⟩
  have HB := Lib.hid (Below.then HX.out hb HX.out.size)
  clear hb HC
  go_wp2_with fail
  go_ret
  exact ⟨rfl, HB.out⟩

theorem stay_self (P : Nat → Prop) (w : World) : Stay P w w := ⟨Nat.le_refl _, fun _ _ _ => rfl⟩
structure UpdN (v : Value) (w : World) (us : List Upd) (cs : List Value) : Prop where
  len : cs.length = us.length * 3
  one : ∀ u ∈ cs, u.oneCell' = true
  at_ : ∀ i (h : i < us.length), ∃ RA RC, cs[i * 3]? = some (.bool us[i].del) ∧ cs[i * 3 + 1]? = some (.string us[i].rel) ∧ cs[i * 3 + 2]? = some (.slice RA us[i].row.length RC) ∧ SlR w.heap.size w RA us[i].row ∧ (us[i].row ≠ [] → ∀ ad, RA = some ad → v.ownBlock ≠ some ad.block)
theorem UpdN.nil {v : Value} {w : World} : UpdN v w [] [] := ⟨rfl, fun u hu => (by cases hu), fun i hi => absurd hi (Nat.not_lt_zero _)⟩
theorem UpdN.up {v : Value} {w w' : World} {us : List Upd} {cs : List Value} (h : UpdN v w us cs) (hb : Below w.heap.size w w') : UpdN v w' us cs :=
  ⟨h.len, h.one, fun i hi => by obtain ⟨RA, RC, a, b, c, d, e⟩ := h.at_ i hi; exact ⟨RA, RC, a, b, c, (d.below hb (Nat.le_refl _)).more hb.size, e⟩⟩
theorem slr_grown {w w' : World} {row : Option Nat} {A : Option Addr} {x : RL.R} (h : SlR w.heap.size w A x) (hne : x ≠ [] → ∀ ad, A = some ad → row ≠ some ad.block) (hg : w.grownBy w' row) : SlR w'.heap.size w' A x := fun hc => by
  obtain ⟨b, o, e, hb, hcell⟩ := h hc
  have hx : x ≠ [] := fun h0 => hc (by rw [h0]; rfl)
  exact ⟨b, o, e, Nat.lt_of_lt_of_le hb hg.size, fun j u hu => (World.cell?_of_block (hg.block b hb (fun h0 => hne hx _ e h0.symm))).trans (hcell j u hu)⟩
theorem UpdN.grow {v v' : Value} {w w' : World} {us : List Upd} {cs : List Value} (h : UpdN v w us cs) (hg : w.grownBy w' v.ownBlock) (hat : ∀ b, v'.ownBlock = some b → v.ownBlock = some b ∨ b = w.heap.size) : UpdN v' w' us cs :=
  ⟨h.len, h.one, fun i hi => by
    obtain ⟨RA, RC, a, b, c, d, e⟩ := h.at_ i hi
    refine ⟨RA, RC, a, b, c, slr_grown d e hg, fun hne ad had h0 => ?_⟩
    rcases hat _ h0 with h1 | h1
    · exact e hne ad had h1
    · have := d.ltB hne ad had
      omega⟩
theorem UpdN.snoc {v : Value} {w : World} {us : List Upd} {cs : List Value} (h : UpdN v w us cs) {del : Bool} {nm : ByteArray} {x : RL.R} {RA : Option Addr} {RC : Nat} (hx : SlR w.heap.size w RA x) (hx2 : x ≠ [] → ∀ ad, RA = some ad → v.ownBlock ≠ some ad.block) :
    UpdN v w (us ++ [⟨del, nm, x⟩]) (cs ++ [.bool del, .string nm, .slice RA x.length RC]) := by
  have hl := h.len
  refine ⟨by rw [List.length_append, List.length_append, hl]; show _ + 3 = (_ + 1) * 3; omega, fun u hu => ?_, fun i hi => ?_⟩
  · rcases List.mem_append.1 hu with hu | hu
    · exact h.one u hu
    · simp at hu
      rcases hu with rfl | rfl | rfl <;> rfl
  · by_cases hiu : i < us.length
    · obtain ⟨RA', RC', a, b, c, d, e⟩ := h.at_ i hiu
      rw [List.getElem_append_left hiu]
      exact ⟨RA', RC', by rw [List.getElem?_append_left (by omega)]; exact a, by rw [List.getElem?_append_left (by omega)]; exact b, by rw [List.getElem?_append_left (by omega)]; exact c, d, e⟩
    · obtain rfl : i = us.length := by rw [List.length_append] at hi; simp only [List.length_cons, List.length_nil] at hi; omega
      rw [List.getElem_append_right (Nat.le_refl _)]
      simp only [Nat.sub_self, List.getElem_cons_zero]
      refine ⟨RA, RC, ?_, ?_, ?_, hx, hx2⟩
      · rw [List.getElem?_append_right (by omega), hl, Nat.sub_self]; rfl
      · rw [List.getElem?_append_right (by omega), hl, show us.length * 3 + 1 - us.length * 3 = 1 by omega]; rfl
      · rw [List.getElem?_append_right (by omega), hl, show us.length * 3 + 2 - us.length * 3 = 2 by omega]; rfl
theorem UpdN.cs {v : Value} {w : World} {us : List Upd} {cs : List Value} (h : UpdN v w us cs) : UpdCs w.heap.size w us cs :=
  ⟨h.len, h.one, fun i hi => by obtain ⟨RA, RC, a, b, c, d, _⟩ := h.at_ i hi; exact ⟨RA, RC, a, b, c, d⟩⟩
end
end Go.Proofs.YtdadchpiibipoaaGreatDoor
section
namespace Go.Proofs.YtdadchpiibipoaaGreatDoor.RL

theorem mem_take_drop {Y : List R} (j : Nat) (x : R) : x ∈ Y ↔ x ∈ Y.take j ∨ x ∈ Y.drop j := by
  conv => lhs; rw [← List.take_append_drop j Y]
  exact List.mem_append
theorem mem_drop_head {Y : List R} (h : SS Y) {x : R} {j : Nat} (h1 : ∀ y ∈ Y.take j, cmpR y x < 0) (hj : j < Y.length) (h2 : 0 ≤ cmpR Y[j] x) : decide (x ∈ Y) = decide (Y[j] = x) := by
  rw [decide_eq_decide]
  constructor
  · intro hx
    rcases (mem_take_drop j x).1 hx with h3 | h3
    · have := h1 x h3
      rw [tot_cmpR.self] at this
      omega
    · obtain ⟨i, hi, rfl⟩ := List.getElem_of_mem h3
      simp only [List.length_drop] at hi
      rw [List.getElem_drop] at h2 ⊢
      rcases Nat.eq_zero_or_pos i with h0 | h0
      · subst h0; rfl
      · have := h.get (show j < j + i by omega) (by omega)
        omega
  · rintro rfl
    exact List.getElem_mem hj
theorem mem_drop_none {Y : List R} {x : R} {j : Nat} (h1 : ∀ y ∈ Y.take j, cmpR y x < 0) (hj : Y.length ≤ j) : decide (x ∈ Y) = false := by
  simp only [decide_eq_false_iff_not]
  intro hx
  rw [List.take_of_length_le hj] at h1
  have := h1 x hx
  rw [tot_cmpR.self] at this
  omega
theorem take_snoc_lt {Y : List R} {x : R} {j : Nat} (h1 : ∀ y ∈ Y.take j, cmpR y x < 0) (hj : j < Y.length) (h2 : cmpR Y[j] x < 0) : ∀ y ∈ Y.take (j + 1), cmpR y x < 0 := fun y hy => by
  rw [List.take_succ_eq_append_getElem hj, List.mem_append] at hy
  rcases hy with hy | hy
  · exact h1 y hy
  · rw [List.mem_singleton.1 hy]; exact h2
theorem below_next {X : List R} (h : SS X) {k : Nat} (hk : k < X.length) {y : R} (hy : cmpR y X[k] < 0) : ∀ x ∈ X.drop (k + 1), cmpR y x < 0 := fun x hx => by
  obtain ⟨i, hi, rfl⟩ := List.getElem_of_mem hx
  simp only [List.length_drop] at hi
  rw [List.getElem_drop]
  exact tot_cmpR.tr _ _ _ hy (h.get (by omega) (by omega))

theorem ss_snoc {L : List R} (h : SS L) {y : R} (hy : ∀ r ∈ L, cmpR r y < 0) : SS (L ++ [y]) := by
  unfold SS
  rw [List.pairwise_append]
  exact ⟨h, List.pairwise_singleton _ _, fun a ha b hb => by rw [List.mem_singleton.1 hb]; exact hy a ha⟩
theorem mem_drop_self {Y : List R} {j : Nat} (hj : j < Y.length) : Y[j] ∈ Y.drop j := by
  rw [List.drop_eq_getElem_cons hj]; exact List.mem_cons_self
end Go.Proofs.YtdadchpiibipoaaGreatDoor.RL
end
namespace Go.Proofs.YtdadchpiibipoaaGreatDoor
section
open Go.RowKit Go.Sort

theorem slTail1 (A : Option Addr) (m cap : Nat) (W : World) : (Instr.slice 38 (.slice A (m + 1) cap) (some (.int .i64 1)) none none).run Tryz.prog W = .ok (.slice (tailA A 1 cap) m (cap - 1)) W := slTail A (m + 1) cap 1 (by omega) W

def boxLen (g : Nat) (w : World) : Nat := match w.cell? ⟨g, 0, none⟩ with | some v => lenOf v | none => 0
theorem boxLen_row {w : World} {g : Nat} {e : TypeId} {A : Option Addr} {n C : Nat} (h : Row w g e [.slice A n C]) : boxLen g w = n := by
  unfold boxLen
  rw [h.cell 0]
  rfl

def MemR (cb g2 : Nat) (wt : Bool) (P : Nat → Prop) (B : Nat) (Y : List RL.R) (x : RL.R) (W : World) : Prop :=
  ∃ A C j, Row W cb 38 [.slice A (Y.drop j).length C] ∧ (Y.drop j).length ≤ C ∧ C ≤ 9223372036854775807 ∧ SlRsP P B W A (Y.drop j) ∧ j ≤ Y.length ∧ Row W g2 4 [.bool wt] ∧ ∀ y ∈ Y.take j, RL.cmpR y x < 0

set_option maxHeartbeats 2000000 in
theorem rlMember1_any (cb g2 : Nat) (wt : Bool) (P : Nat → Prop) (B : Nat) (Y : List RL.R) (x : RL.R) (A' : Option Addr) (C' : Nat) (W : World)
    (hI : MemR cb g2 wt P B Y x W) (hPc : ∀ b, P b → b ≠ cb) (hB : B ≤ W.heap.size) (hx : HR P B W (.slice A' x.length C') x) (hxl : x.length ≤ 1000000) (hYo : RsOk Y) (hYl : Y.length ≤ 1000000) (hS : RL.SS Y) (hg : g2 ≠ cb) :
    Calls Tryz.prog 112 #[.slice A' x.length C', .pointer (some ⟨cb, 0, none⟩), .pointer (some ⟨g2, 0, none⟩)] W fun e W' => e = .returned (.bool (decide (x ∈ Y) == wt)) ∧ MemR cb g2 wt P B Y x W' ∧ W.grownBy W' (some cb) := by
  have HI := Lib.hid hI
  have HPC := Lib.hid hPc
  have HX := Lib.hid hx
  have HYO := Lib.hid hYo
  have HS := Lib.hid hS
  clear hI hPc hx hYo hS
  go_enter Tryz.func112, Tryz.ntmps112
  go_wp2
  go_loopw [6] (fun _ wr => MemR cb g2 wt P B Y x wr ∧ HR P B wr (.slice A' x.length C') x ∧ W.grownBy wr (some cb)) (fun _ wr => boxLen cb wr)
  case atStart => exact ⟨HI.out, HX.out, ⟨rfl, rfl, rfl, Nat.le_refl _, fun _ _ _ => rfl⟩⟩
  case round =>
    obtain ⟨⟨A, C, j, hrow, hc1, hc2, hs, hj, hrw, hlt⟩, hx, hgr⟩ := hrel
    have HROW := Lib.hid hrow
    have HRW := Lib.hid hrw
    have HSL := Lib.hid hs
    have HLT := Lib.hid hlt
    have HXR := Lib.hid hx
    have HGR := Lib.hid hgr
    have hzz := hgr.size
    have hz1 := hrow.lt
    have hz2 := hrw.lt
    clear HI HX
    by_cases h1 : j < Y.length
    rotate_left
    · have hd0 : Y.drop j = [] := List.drop_of_length_le (by omega)
      have HD := Lib.hid (RL.mem_drop_none hlt (show Y.length ≤ j by omega))
      have r0 : wr.cell? ⟨cb, 0, none⟩ = some (.slice A 0 C) := by rw [hrow.cell 0, hd0]; rfl
      have r1 : wr.cell? ⟨g2, 0, none⟩ = some (.bool wt) := hrw.cell 0
      have HM : Hid (MemR cb g2 wt P B Y x wr) := ⟨A, C, j, hrow, hc1, hc2, hs, hj, hrw, hlt⟩
      clear hd0 hrow hs hrw hlt hx hgr hc1
      go_wp2
      go_ret
      exact ⟨by rw [HD.out]; cases wt <;> rfl, HM.out, HGR.out⟩
    · obtain ⟨m, hm⟩ : ∃ m, (Y.drop j).length = m + 1 := ⟨(Y.drop j).length - 1, by simp; omega⟩
      have hml : m ≤ 1000000 := by simp at hm; omega
      have hmc : m + 1 ≤ C := by omega
      obtain ⟨b, o, A1, C1, rfl, hb, hbP, hcell, hhr⟩ := hs.at_ (i := 0) (by omega)
      have hbc := HPC.out b hbP
      have e0 : (Y.drop j)[0]'(by omega) = Y[j] := by simp
      rw [e0] at hcell hhr
      have r0 : wr.cell? ⟨cb, 0, none⟩ = some (.slice (some ⟨b, o, none⟩) (m + 1) C) := by rw [hrow.cell 0, hm]; rfl
      have f0 := hrow.frozen 0
      have r1 : wr.cell? ⟨g2, 0, none⟩ = some (.bool wt) := hrw.cell 0
      have hc0 : wr.cell? ⟨b, o, none⟩ = some (.slice A1 Y[j].length C1) := hcell
      have HHR := Lib.hid hhr
      have hyl := (HYO.out.at_ h1).1
      have HC := Lib.hid (rwCompare_any A1 A' C1 C' Y[j] x wr (hhr.sl.more (by omega)) (hx.sl.more (by omega)) hyl hxl)
      have HE := Lib.hid (fun (w1 : World) (h : Ext wr w1) => rwEqual_any A1 A' C1 C' Y[j] x w1 ((hhr.sl.more (show B ≤ wr.heap.size by omega)).up h) ((hx.sl.more (show B ≤ wr.heap.size by omega)).up h) hyl hxl)
      have HY1 := Lib.hid (fun h => RL.mem_drop_head HS.out hlt h1 h)
      have HY2 := Lib.hid (fun h => RL.take_snoc_lt hlt h1 h)
      have hst := slTail1 (some ⟨b, o, none⟩) m C
      have HT : Hid (SlRsP P B wr (tailA (some ⟨b, o, none⟩) 1 C) (Y.drop (j + 1))) := by have h := hs.tail (cap := C) (by omega) 1; rw [List.drop_drop] at h; exact h
      have hd1 : (Y.drop (j + 1)).length = m := by simp at hm ⊢; omega
      have HD1 := Lib.hid hd1
      have HM1 := Lib.hid hm
      obtain ⟨TA, hTA⟩ : ∃ TA, TA = tailA (some ⟨b, o, none⟩) 1 C := ⟨_, rfl⟩
      rw [← hTA] at hst HT
      clear hrow hs hrw hlt hx hgr hcell hhr hd1 hm hTA e0
      generalize Y[j] = y at *
      go_wp2_with fail
      refine HC.out.mono ?_
      rintro e w1 ⟨rfl, hx1⟩
      have hz3 := hx1.size
      have hrow1 := HROW.out.up hx1.below
      rw [HM1.out] at hrow1
      have r01 : w1.cell? ⟨cb, 0, none⟩ = some (.slice (some ⟨b, o, none⟩) (m + 1) C) := hrow1.cell 0
      have f01 := hrow1.frozen 0
      have hc01 : w1.cell? ⟨b, o, none⟩ = some (.slice A1 y.length C1) := (hx1.cell (show b < wr.heap.size by omega)).trans hc0
      have r11 : w1.cell? ⟨g2, 0, none⟩ = some (.bool wt) := (HRW.out.up hx1.below).cell 0
      have HROW1 := Lib.hid hrow1
      have HX1 := Lib.hid hx1
      clear hx1 hrow1 HC r0 f0 r1 hc0
      by_cases hq : RL.cmpR y x < 0
      · have hqd : decide (RL.cmpR y x < 0) = true := by simpa using hq
        have HLT2 := Lib.hid (HY2.out hq)
        have hbl := Lib.hid (boxLen_row HROW1.out)
        clear hq HY1 HY2
        generalize RL.cmpR y x = qv at *
        go_wp2
        go_roundw
        case rel =>
          have hrow2 : Row (w1.setCell ⟨cb, 0, none⟩ (.slice TA m (C - 1))) cb 38 [.slice TA m (C - 1)] := HROW1.out.set 0 _
          have hk : ∀ p : Addr, p.block < B → P p.block → (w1.setCell ⟨cb, 0, none⟩ (.slice TA m (C - 1))).cell? p = wr.cell? p := fun p hp hP => far_cell (p := ⟨cb, 0, none⟩) (fun e => HPC.out _ hP e.symm) (HX1.out.below.cell (by omega))
          refine ⟨⟨TA, C - 1, j + 1, by rw [HD1.out]; exact hrow2, by rw [HD1.out]; omega, by omega, HT.out.keep hk, by omega, (HRW.out.up HX1.out.below).far (p := ⟨cb, 0, none⟩) hg _, HLT2.out⟩, HXR.out.keep hk, ?_⟩
          refine grown_trans HGR.out (grown_trans (HX1.out.grown _) ?_)
          exact ⟨rfl, rfl, rfl, by simp, fun b hb hne => Below.heap_setCell _ _ _ _ (fun e => hne (by rw [e]))⟩
        case measure =>
          rw [boxLen_row HROW.out, HM1.out, boxLen_row (HROW1.out.set 0 _)]
          omega
      · have hqd : decide (RL.cmpR y x < 0) = false := by simpa using hq
        have HDM := Lib.hid (HY1.out (by omega))
        clear hq HY1 HY2 HT hst
        generalize RL.cmpR y x = qv at *
        go_wp2_with fail
        refine (HE.out _ HX1.out).mono ?_
        rintro e w2 ⟨rfl, hx2⟩
        have r12 : w2.cell? ⟨g2, 0, none⟩ = some (.bool wt) := ((HRW.out.up HX1.out.below).up hx2.below).cell 0
        have HX2 := Lib.hid (HX1.out.trans hx2)
        clear hx2 HE
        obtain ⟨dq, hdq⟩ : ∃ dq, dq = decide (y = x) := ⟨_, rfl⟩
        rw [← hdq]
        have HDQ := Lib.hid hdq
        clear hdq
        go_wp2
        go_ret
        refine ⟨by rw [HDM.out, ← HDQ.out]; rfl, ⟨_, C, j, HROW.out.up HX2.out.below, by rw [HM1.out]; omega, hc2, HSL.out.below HX2.out.below (by omega), hj, HRW.out.up HX2.out.below, HLT.out⟩, grown_trans HGR.out (HX2.out.grown _)⟩
end
section
open Go.RowKit Go.Sort

set_option maxHeartbeats 400000 in
theorem rlMember_any (n : Int) (YA : Option Addr) (YC l : Nat) (wt : Bool) (w : World) :
    Calls Tryz.prog 97 #[.agg #[.int .i64 n, .slice YA l YC], .bool wt] w fun e w' => ∃ cb g2, e = .returned (.func (.func 112) #[] #[.pointer (some ⟨cb, 0, none⟩), .pointer (some ⟨g2, 0, none⟩)]) ∧ Row w' cb 38 [.slice YA l YC] ∧ Row w' g2 4 [.bool wt] ∧ w.heap.size ≤ cb ∧ w.heap.size ≤ g2 ∧ g2 ≠ cb ∧ Ext w w' := by
  go_enter Tryz.func97, Tryz.ntmps97
  go_wp2
  go_ret
  refine ⟨w.heap.size + 2, w.heap.size + 1, rfl, ?_, ?_, by omega, by omega, by omega, ((((Ext.refl w).alloc _).alloc _).alloc _)⟩
  · have h := Row.new ((w.alloc (.cells #[.int .i64 n, .slice YA l YC] 56)).alloc (.cells #[.bool wt] 4)) 38 [.slice YA l YC]
    simp only [World.size_alloc] at h
    exact h
  · have h := (Row.new (w.alloc (.cells #[.int .i64 n, .slice YA l YC] 56)) 4 [.bool wt]).alloc (.cells #[.slice YA l YC] 38)
    simp only [World.size_alloc] at h
    exact h

def BothPost (P : Nat → Prop) (w : World) (n : Int) (X Y : List RL.R) (wt : Bool) (e : Ending) (w' : World) : Prop :=
  ∃ v, e = .returned (.tuple #[v, .int .i64 0]) ∧ RelP P w' n (X.filter fun x => decide (x ∈ Y) == wt) v ∧ Below w.heap.size w w'

theorem both_filter (P : Nat → Prop) (n : Int) (RA YA : Option Addr) (RC YC : Nat) (X Y : List RL.R) (wt : Bool) (w0 B : Nat) (cb g2 : Nat) (w1 : World)
    (hX : SlRsP P w0 w1 RA X) (hY : SlRsP P w0 w1 YA Y) (hPn : ∀ b, w0 ≤ b → P b) (hB : w0 ≤ B) (hcb : B ≤ cb) (_hg2 : B ≤ g2) (hne : g2 ≠ cb) (hr1 : Row w1 cb 38 [.slice YA Y.length YC]) (hr2 : Row w1 g2 4 [.bool wt])
    (hXo : RsOk X) (hYo : RsOk Y) (hXl : X.length ≤ 60000) (hYl : Y.length ≤ 60000) (hXS : RL.SS X) (hYS : RL.SS Y) (hYc : Y.length ≤ YC) (hYm : YC ≤ 9223372036854775807) :
    Calls Tryz.prog 96 #[.agg #[.int .i64 n, .slice RA X.length RC], .func (.func 112) #[] #[.pointer (some ⟨cb, 0, none⟩), .pointer (some ⟨g2, 0, none⟩)]] w1 fun e w' => ∃ v, e = .returned v ∧ RelP (fun b => P b ∧ (b < w0 ∨ w1.heap.size ≤ b)) w' n (X.filter fun x => decide (x ∈ Y) == wt) v ∧ w1.grownBy w' (some cb) := by
  have hz1 := hr1.lt
  have hz2 := hr2.lt
  refine rlFilter_P n RA RC X 112 #[.pointer (some ⟨cb, 0, none⟩), .pointer (some ⟨g2, 0, none⟩)] (fun x => decide (x ∈ Y) == wt) (fun b => P b ∧ (b < w0 ∨ w1.heap.size ≤ b)) cb
    (fun k W => ∃ A C j, Row W cb 38 [.slice A (Y.drop j).length C] ∧ (Y.drop j).length ≤ C ∧ C ≤ 9223372036854775807 ∧ SlRsP (fun b => P b ∧ (b < w0 ∨ w1.heap.size ≤ b)) w1.heap.size W A (Y.drop j) ∧ j ≤ Y.length ∧ Row W g2 4 [.bool wt] ∧ ∀ y ∈ Y.take j, ∀ x ∈ X.drop k, RL.cmpR y x < 0) w1
    (enters_of Tryz.func112 (by kernel_rfl) rfl) ((hX.weak (fun b hb h => ⟨h, .inl hb⟩)).more (by omega)) (by omega) (fun b h => by omega) (fun b h => ⟨hPn b (by omega), .inr h⟩) hz1
    ⟨YA, YC, 0, hr1, hYc, hYm, (hY.weak (fun b hb h => ⟨h, .inl hb⟩)).more (by omega), Nat.zero_le _, hr2, fun y hy => by simp at hy⟩ ?_ ?_
  · rintro k W W' ⟨A, C, j, h1, h2, h3, h4, h5, h6, h7⟩ hb hz
    exact ⟨A, C, j, h1.below hb hz1, h2, h3, h4.below hb (Nat.le_refl _), h5, h6.below hb hz2, h7⟩
  · rintro k hk W A' C' ⟨A, C, j, h1, h2, h3, h4, h5, h6, h7⟩ hg hr
    have hM : MemR cb g2 wt (fun b => P b ∧ (b < w0 ∨ w1.heap.size ≤ b)) w1.heap.size Y X[k] W := ⟨A, C, j, h1, h2, h3, h4, h5, h6, fun y hy => h7 y hy _ (RL.mem_drop_self hk)⟩
    refine (rlMember1_any cb g2 wt _ w1.heap.size Y X[k] A' C' W hM (fun b h => by omega) hg.size hr (hXo.at_ hk).1 hYo (by omega) hYS hne).mono ?_
    rintro e W' ⟨rfl, ⟨A2, C2, j2, k1, k2, k3, k4, k5, k6, k7⟩, hg'⟩
    exact ⟨rfl, ⟨A2, C2, j2, k1, k2, k3, k4, k5, k6, fun y hy => RL.below_next hXS hk (k7 y hy)⟩, hg'⟩

set_option maxHeartbeats 2000000 in
theorem rlMinus_P (P : Nat → Prop) (n : Int) (RA YA : Option Addr) (RC YC : Nat) (X Y : List RL.R) (w : World) (hX : SlRsP P w.heap.size w RA X) (hY : SlRsP P w.heap.size w YA Y) (hPn : ∀ b, w.heap.size ≤ b → P b) (hXo : RsOk X) (hYo : RsOk Y) (hXl : X.length ≤ 60000) (hYl : Y.length ≤ 60000) (hXS : RL.SS X) (hYS : RL.SS Y) (hYc : Y.length ≤ YC) (hYm : YC ≤ 9223372036854775807) :
    Calls Tryz.prog 70 #[.agg #[.int .i64 n, .slice RA X.length RC], .agg #[.int .i64 n, .slice YA Y.length YC]] w (BothPost P w n X Y false) := by
  have HX := Lib.hid hX
  have HY := Lib.hid hY
  have HPN := Lib.hid hPn
  have HXO := Lib.hid hXo
  have HYO := Lib.hid hYo
  have HXS := Lib.hid hXS
  have HYS := Lib.hid hYS
  clear hX hY hPn hXo hYo hXS hYS
  go_enter Tryz.func70, Tryz.ntmps70
  have HW : Hid (∃ W0, W0 = ((w.alloc (.cells #[.int .i64 n, .slice RA X.length RC] 56)).alloc (.cells #[.int .i64 n, .slice YA Y.length YC] 56)).alloc (.cells #[.int .i64 0, .slice none 0 0] 56) ∧ W0.heap.size = w.heap.size + 3 ∧ Ext w W0 ∧ Row W0 w.heap.size 56 [.int .i64 n, .slice RA X.length RC] ∧ Row W0 (w.heap.size + 1) 56 [.int .i64 n, .slice YA Y.length YC] ∧ Row W0 (w.heap.size + 2) 56 [.int .i64 0, .slice none 0 0]) := by
    have q1 := ((Row.new w 56 [.int .i64 n, .slice RA X.length RC]).alloc (.cells #[.int .i64 n, .slice YA Y.length YC] 56)).alloc (.cells #[.int .i64 0, .slice none 0 0] 56)
    have q2 := (Row.new (w.alloc (.cells #[.int .i64 n, .slice RA X.length RC] 56)) 56 [.int .i64 n, .slice YA Y.length YC]).alloc (.cells #[.int .i64 0, .slice none 0 0] 56)
    have q3 := Row.new ((w.alloc (.cells #[.int .i64 n, .slice RA X.length RC] 56)).alloc (.cells #[.int .i64 n, .slice YA Y.length YC] 56)) 56 [.int .i64 0, .slice none 0 0]
    simp only [World.size_alloc] at q2 q3
    exact ⟨_, rfl, by simp only [World.size_alloc], ((Ext.refl w).alloc _).alloc _ |>.alloc _, q1, q2, q3⟩
  obtain ⟨W0, hW0, hz0, he0, q1, q2, q3⟩ := HW.out
  have HZ0 := Lib.hid hz0
  have HE0 := Lib.hid he0
  have HQ1 := Lib.hid q1
  have HQ2 := Lib.hid q2
  have HQ3 := Lib.hid q3
  have hzle : w.heap.size + 3 ≤ W0.heap.size := by omega
  clear hz0 he0
  go_wp2
  rw [← hW0]
  clear HW hW0
  have a0 : W0.cell? ⟨w.heap.size, 0, none⟩ = some (.int .i64 n) := q1.cell 0
  have a1 : W0.cell? ⟨w.heap.size, 1, none⟩ = some (.slice RA X.length RC) := q1.cell 1
  have b0 : W0.cell? ⟨w.heap.size + 1, 0, none⟩ = some (.int .i64 n) := q2.cell 0
  have b1 : W0.cell? ⟨w.heap.size + 1, 1, none⟩ = some (.slice YA Y.length YC) := q2.cell 1
  clear q1 q2 q3
  have HM := Lib.hid (fun W => rlMember_any n YA YC Y.length false W)
  go_region_held3 (fun w' => w'.cell? ⟨w.heap.size, 0, none⟩ = some (.int .i64 n) ∧ w'.cell? ⟨w.heap.size, 1, none⟩ = some (.slice RA X.length RC) ∧ w'.cell? ⟨w.heap.size + 1, 0, none⟩ = some (.int .i64 n) ∧ w'.cell? ⟨w.heap.size + 1, 1, none⟩ = some (.slice YA Y.length YC)) (first | exact KEEP2 | exact KEEP | exact HK3.out _ _ | go_keep)
    (first
      | (go_at_call 97; refine (HM.out _).mono ?_; rintro e w1 ⟨cb, g2, rfl, hr1, hr2, hcb, hg2, hne, hx1⟩
         have HX1 := Lib.hid ((Ext.refl W0).drew.trans hx1)
         have HR1 := Lib.hid hr1
         have HR2 := Lib.hid hr2
         have hcb' : W0.heap.size ≤ cb := hcb
         have hg2' : W0.heap.size ≤ g2 := hg2
         have HNE := Lib.hid hne
         have KEEP : w1.cell? ⟨w.heap.size, 0, none⟩ = some (.int .i64 n) ∧ w1.cell? ⟨w.heap.size, 1, none⟩ = some (.slice RA X.length RC) ∧ w1.cell? ⟨w.heap.size + 1, 0, none⟩ = some (.int .i64 n) ∧ w1.cell? ⟨w.heap.size + 1, 1, none⟩ = some (.slice YA Y.length YC) := ⟨(HQ1.out.up HX1.out.below).cell 0, (HQ1.out.up HX1.out.below).cell 1, (HQ2.out.up HX1.out.below).cell 0, (HQ2.out.up HX1.out.below).cell 1⟩
         clear hcb hg2 hne hx1 hr1 hr2)
      | (go_at_call 96; refine (both_filter P n RA YA RC YC X Y false w.heap.size W0.heap.size cb g2 w1 (HX.out.below (HE0.out.trans HX1.out).below (Nat.le_refl _)) (HY.out.below (HE0.out.trans HX1.out).below (Nat.le_refl _)) HPN.out (by omega) hcb' hg2' HNE.out HR1.out HR2.out HXO.out HYO.out hXl hYl HXS.out HYS.out hYc hYm).mono ?_
         rintro e w2 ⟨rv, rfl, ⟨A5, C5, rfl, hc5, hm5, hs5⟩, hg3⟩
         have r3 := ((HQ3.out.up HX1.out.below).grown hg3 (fun e => by injection e with e; omega))
         have r1 := ((HQ1.out.up HX1.out.below).grown hg3 (fun e => by injection e with e; omega))
         have r2 := ((HQ2.out.up HX1.out.below).grown hg3 (fun e => by injection e with e; omega))
         have HB2 := Lib.hid (Below.then (HE0.out.trans HX1.out).below (below_of_grown hg3 (show w.heap.size ≤ cb by omega) (HE0.out.trans HX1.out).size) (Nat.le_refl _))
         have e0 : w2.cell? ⟨w.heap.size + 2, 0, none⟩ = some (.int .i64 0) := r3.cell 0
         have e1 : w2.cell? ⟨w.heap.size + 2, 1, none⟩ = some (.slice none 0 0) := r3.cell 1
         have f0 := r3.frozen 0
         have f1 := r3.frozen 1
         have HR3 := Lib.hid r3
         have HS5 := Lib.hid hs5
         have KEEP2 : w2.cell? ⟨w.heap.size, 0, none⟩ = some (.int .i64 n) ∧ w2.cell? ⟨w.heap.size, 1, none⟩ = some (.slice RA X.length RC) ∧ w2.cell? ⟨w.heap.size + 1, 0, none⟩ = some (.int .i64 n) ∧ w2.cell? ⟨w.heap.size + 1, 1, none⟩ = some (.slice YA Y.length YC) := ⟨r1.cell 0, r1.cell 1, r2.cell 0, r2.cell 1⟩
         have KEEP3 : ∀ u v, ((w2.setCell ⟨w.heap.size + 1 + 1, 0, none⟩ u).setCell ⟨w.heap.size + 1 + 1, 1, none⟩ v).cell? ⟨w.heap.size, 0, none⟩ = some (.int .i64 n) ∧ ((w2.setCell ⟨w.heap.size + 1 + 1, 0, none⟩ u).setCell ⟨w.heap.size + 1 + 1, 1, none⟩ v).cell? ⟨w.heap.size, 1, none⟩ = some (.slice RA X.length RC) ∧ ((w2.setCell ⟨w.heap.size + 1 + 1, 0, none⟩ u).setCell ⟨w.heap.size + 1 + 1, 1, none⟩ v).cell? ⟨w.heap.size + 1, 0, none⟩ = some (.int .i64 n) ∧ ((w2.setCell ⟨w.heap.size + 1 + 1, 0, none⟩ u).setCell ⟨w.heap.size + 1 + 1, 1, none⟩ v).cell? ⟨w.heap.size + 1, 1, none⟩ = some (.slice YA Y.length YC) := fun u v => ⟨far_cell (by show w.heap.size + 1 + 1 ≠ w.heap.size; omega) (far_cell (by show w.heap.size + 1 + 1 ≠ w.heap.size; omega) KEEP2.1), far_cell (by show w.heap.size + 1 + 1 ≠ w.heap.size; omega) (far_cell (by show w.heap.size + 1 + 1 ≠ w.heap.size; omega) KEEP2.2.1), far_cell (by show w.heap.size + 1 + 1 ≠ w.heap.size + 1; omega) (far_cell (by show w.heap.size + 1 + 1 ≠ w.heap.size + 1; omega) KEEP2.2.2.1), far_cell (by show w.heap.size + 1 + 1 ≠ w.heap.size + 1; omega) (far_cell (by show w.heap.size + 1 + 1 ≠ w.heap.size + 1; omega) KEEP2.2.2.2)⟩
         have HK3 := Lib.hid KEEP3
         clear KEEP3
         obtain ⟨Z, hZ⟩ : ∃ Z, Z = X.filter fun x => decide (x ∈ Y) == false := ⟨_, rfl⟩
         rw [← hZ] at HS5 hc5
         rw [← hZ]
         have HZ := Lib.hid hZ
         clear hZ hs5 hg3 r1 r2 r3)
      | fail)
  go_wp2
  refine bodyPost_ret (v := .tuple #[.agg #[.int .i64 n, .slice A5 Z.length C5], .int .i64 0]) ?_ rfl ⟨_, rfl, ?_, ?_⟩
  · have h := HR3.out.set2 (.int .i64 n) (.slice A5 Z.length C5)
    have z0 := h.cell 0
    have z1 := h.cell 1
    simp only [List.getElem?_cons_zero, List.getElem?_cons_succ] at z0 z1
    simp [results, Tryz.results70, go_sem, z0, z1]
  · rw [← HZ.out]
    refine ⟨A5, C5, rfl, hc5, hm5, ?_⟩
    have hx1 := HX1.out.size
    have h := (HS5.out.keep (w' := (w2.setCell ⟨w.heap.size + 2, 0, none⟩ (.int .i64 n)).setCell ⟨w.heap.size + 2, 1, none⟩ (.slice A5 Z.length C5)) (fun p hp hne => by
      have hpn : p.block ≠ w.heap.size + 2 := by rcases hne.2 with h | h <;> omega
      exact far_cell (p := ⟨w.heap.size + 2, 1, none⟩) (fun e => hpn e.symm) (far_cell (p := ⟨w.heap.size + 2, 0, none⟩) (fun e => hpn e.symm) rfl))).weak (P' := P) (fun b _ h => h.1)
    simpa using h
  · exact (HB2.out.setCell (p := ⟨w.heap.size + 2, 0, none⟩) (show w.heap.size ≤ w.heap.size + 2 by omega) _).setCell (p := ⟨w.heap.size + 2, 1, none⟩) (show w.heap.size ≤ w.heap.size + 2 by omega) _
end
section
open Go.RowKit Go.Sort Go.ChangeMaps Go.WideShapes

theorem MadeRs.get {w : World} {g B : Nat} {E : TypeId} {X : List RL.R} (h : MadeRs w g E X X.length B) {i : Nat} (hi : i < X.length) : ∃ A' C', w.cell? ⟨g, i, none⟩ = some (.slice A' X[i].length C') ∧ SlR w.heap.size w A' X[i] ∧ (X[i] ≠ [] → ∀ ad, A' = some ad → B ≤ ad.block) := by
  obtain ⟨hs, h1, h2, h3, h4⟩ := h
  obtain ⟨A', C', a, -, -, b, c⟩ := h4 i hi hi
  exact ⟨A', C', (h1.cell i).trans a, b, fun hx ad e => (c hx ad e).2.1⟩
theorem fieldEnt1 (k n a : Value) (u : World) : (Instr.field 99 (.agg #[k, n, a]) 1).run Tryz.prog u = .ok (.agg #[n, a]) u := by
  simp [Instr.field, run_underlying Tryz.underlying99, part, go_sem, asAgg]
theorem MadeRs.base {w : World} {g B : Nat} {E : TypeId} {X : List RL.R} {k : Nat} (h : MadeRs w g E X k B) : B ≤ g := by obtain ⟨_, _, _, h3, _⟩ := h; exact h3
theorem min_eq (X Y : List RL.R) : (X.filter fun x => decide (x ∈ Y) == false) = minF X Y := List.filter_congr fun x _ => by cases decide (x ∈ Y) <;> rfl
theorem diffF_snoc (ns : List ByteArray) (F G : Cont) (k : Nat) (h : k < ns.length) : diffF (ns.take (k + 1)) F G = diffF (ns.take k) F G ++ diff1 ns[k] (F ns[k]) (G ns[k]) := by
  unfold diffF
  rw [List.take_succ_eq_append_getElem h, List.flatMap_append, List.flatMap_singleton]
theorem diffF_le2 {F G : Cont} : ∀ (ns : List ByteArray), (∀ s ∈ ns, (F s).length ≤ 4096 ∧ (G s).length ≤ 4096) → (diffF ns F G).length ≤ ns.length * 8192
  | [], _ => Nat.zero_le _
  | nm :: t, hs => by
    have h1 := diffF_le2 t fun s hst => hs s (List.mem_cons_of_mem _ hst)
    obtain ⟨a, b⟩ := hs nm List.mem_cons_self
    have h2 : (minF (F nm) (G nm)).length ≤ 4096 := Nat.le_trans (List.length_filter_le _ _) a
    have h3 : (minF (G nm) (F nm)).length ≤ 4096 := Nat.le_trans (List.length_filter_le _ _) b
    show (diff1 nm (F nm) (G nm) ++ diffF t F G).length ≤ (t.length + 1) * 8192
    rw [List.length_append, diff1_len]
    omega
end
end Go.Proofs.YtdadchpiibipoaaGreatDoor

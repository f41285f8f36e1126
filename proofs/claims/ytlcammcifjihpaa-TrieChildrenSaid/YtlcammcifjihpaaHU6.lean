/- Plain and memory: the way of trie.Children along a prefix; copy of values. -/
import Derived.Test.YtlcammcifjihpaaQ6
namespace Go.Proofs.Ytlcammcifjihpaa
open Go.RowKit Go.Sort

theorem run_copy_rowN {P : Program} (w : World) (dT sT ty elem : TypeId) (size : Nat) (g o dLen dCap : Nat) (a : Addr) (sLen sCap : Nat) (cur : Array Value) (t : TypeId) (cs : List Value)
    (hu : P.underlying dT = some (.slice elem)) (hs : (P.info? elem).map (·.size) = some size)
    (hg : w.heap[g]? = some (.cells cur t (0, 0))) (hn : cs.length = Nat.min sLen dLen * size)
    (hsrc : ∀ j v, cs[j]? = some v → w.cell? (a.add j) = some v) (hfit : o + cs.length ≤ cur.size) (h1 : ∀ v ∈ cs, v.oneCell' = true) :
    (Builtin.copy_ #[dT, sT] ty #[.slice (some ⟨g, o, none⟩) dLen dCap, .slice (some a) sLen sCap]).run P w =
      .ok (goInt (Nat.min sLen dLen)) (w.setRow g (cur.toList.take o ++ cs ++ cur.toList.drop (o + cs.length)).toArray) := by
  have hl := run_loadCells_list (P := P) w a cs hsrc
  have hst := run_storeCells_at P g o t cs 0 cur w hg (by simpa using hfit) h1
  cases hq : P.info? elem with
  | none => simp [hq] at hs
  | some i =>
    have hi : i.size = size := by simpa [hq] using hs
    simp [Builtin.copy_, run_underlying hu, Builtin.lenOf, Builtin.firstCells, sizeOf, typeInfo, hq, hi, ← hn, hl, hst]

/-- copy of the values K onto a new block of just as many, at a step of a region that draws its order. -/
theorem stepCopyV {w : World} {ops : Array Oper} {o : Oper} {a : Act} {K : Act → World → Prop} {Q : Exit → Act → World → Prop} {E : Prop} (hgd : o.guard = none) (s x : Operand)
    (ho : o.op = .call { callee := .builtin .copy, args := #[s, x], argTypes := #[46, 46] })
    (g : Nat) (L : RL.R) (cur : List Value) (hg : Row w g 38 cur) (hcl : cur.length = L.length * 3) (hs : a.eval s = .slice (some ⟨g, 0, none⟩) L.length L.length)
    (b off C : Nat) (hx : a.eval x = .slice (some ⟨b, off, none⟩) L.length C) (hL : ∀ i u, (rcells L)[i]? = some u → w.cell? ⟨b, off + i, none⟩ = some u)
    (h : ∀ w', Row w' g 38 (rcells L) → w.grownBy w' (some g) → K (a.put o.dst (.int .i64 L.length)) w') :
    if Region.wanted o (yielded ops a.tmps) = true then Oper.wp Try.prog o a w K Q else E := by
  have hw : Region.wanted o (yielded ops a.tmps) = true := by simp [Region.wanted, hgd]
  rw [if_pos hw]
  have hinf : (Try.prog.info? 38).map (·.size) = some 3 := by
    obtain ⟨i0, hi0, hz0, hz1, hz2⟩ := info_parts valInfo
    rw [hi0]
    exact congrArg some hz1
  have hrun := run_copy_rowN (P := Try.prog) w 46 46 o.type 38 3 g 0 L.length L.length ⟨b, off, none⟩ L.length C cur.toArray 38 (rcells L) Try.underlying46 hinf hg (by rw [rcells_length]; simp) (by
    intro j v hj
    rw [Addr.add_lit]
    exact hL j v hj) (by simp [rcells_length, hcl]) (rcells_one L)
  unfold Oper.wp execOp
  simp only [ho, resolve, invoke, builtin, Sem.run_bind, Sem.run_pure, Result.andThen_ok, List.map_toArray, List.map_cons, List.map_nil, hs, hx, hrun]
  have e : (cur.toArray.toList.take 0 ++ rcells L ++ cur.toArray.toList.drop (0 + (rcells L).length)) = rcells L := by
    rw [List.take_zero, List.nil_append, Nat.zero_add, rcells_length, List.drop_eq_nil_of_le (by simp [hcl]), List.append_nil]
  rw [e]
  have hmin : Nat.min L.length L.length = L.length := Nat.min_self _
  rw [hmin]
  refine h _ (setRow_heap w g cur.toArray _ _ _ hg) ?_
  refine ⟨rfl, rfl, rfl, by simp [World.setRow], fun k hk hne => ?_⟩
  unfold World.setRow
  simp only [Array.getElem?_modify]
  rw [if_neg (fun e => hne (by rw [e]))]

/-- Where Children stands when k values of the prefix have been followed. -/
def Good (d : Nat) (P : List RL.R) (p : RL.R) (k : Nat) (x : Pl) : Prop :=
  (k = 0 ∧ x = none) ∨ ∃ i, 0 < k ∧ k ≤ p.length ∧ x = some (p.take (k - 1), i) ∧ (RL.kids d P (p.take (k - 1)))[i]? = p[k - 1]?
section
variable {d : Nat} {P : List RL.R} {p : RL.R} {k : Nat} {x : Pl} (hd : ∀ r ∈ P, r.length = d)
include hd
theorem kids_none {v : RL.V} (hk : k < p.length) (hv : p[k]? = some v) (hn : v ∉ RL.kids d P (p.take k)) : RL.kids d P p = [] := by
  rcases Nat.lt_or_ge p.length d with hpd | hpd
  rotate_left
  · exact RL.kids_out hpd
  · apply List.eq_nil_iff_forall_not_mem.2
    intro u hu
    obtain ⟨y, hy, e⟩ := (RL.mem_kids hd hpd u).1 hu
    apply hn
    have hl : (p.take k).length = k := by simp; omega
    refine (RL.mem_kids hd (by omega) v).2 ⟨y, hy, ?_⟩
    have h1 := congrArg (List.take (k + 1)) e
    rw [List.take_take, Nat.min_eq_left (by omega), List.take_append_of_le_length (by omega)] at h1
    obtain ⟨hk', hv'⟩ := List.getElem?_eq_some_iff.1 hv
    rw [hl, h1, List.take_succ_eq_append_getElem hk', hv']
omit hd in
theorem good_closed (hg : Good d P p k x) (hk : k ≤ p.length) (h : openB d P x = false) : RL.kids d P p = [] ∨ P = [] := by
  rcases hg with ⟨rfl, rfl⟩ | ⟨i, h0, -, rfl, hi⟩
  · have h1 : (decide (0 < d) && decide (P ≠ [])) = false := h
    simp at h1
    by_cases h2 : 0 < d
    · exact .inr (h1 h2)
    · exact .inl (RL.kids_out (by omega))
  · left
    have hv : p[k - 1]? = some (p[k - 1]'(by omega)) := List.getElem?_eq_getElem (by omega)
    rw [hv] at hi
    obtain ⟨hil, _⟩ := List.getElem?_eq_some_iff.1 hi
    have h1 : (decide (i < (RL.kids d P (p.take (k - 1))).length) && decide ((p.take (k - 1)).length + 1 < d)) = false := h
    simp at h1
    have h2 := h1 hil
    exact RL.kids_out (by omega)
omit hd in
theorem kids_empty (d : Nat) (q : RL.R) : RL.kids d [] q = [] := by unfold RL.kids; rw [RL.nodes_nil]; rfl
theorem good_closed' (hg : Good d P p k x) (hk : k ≤ p.length) (h : openB d P x = false) : RL.kids d P p = [] := by
  rcases good_closed hg hk h with h1 | rfl
  · exact h1
  · exact kids_empty d p
theorem good_open (hg : Good d P p k x) (hk : k ≤ p.length) (h : openB d P x = true) : openX d P x = some (p.take k, 0) ∧ 0 < (RL.kids d P (p.take k)).length ∧ k < d := by
  rcases hg with ⟨rfl, rfl⟩ | ⟨i, h0, -, rfl, hi⟩
  · have h1 : (decide (0 < d) && decide (P ≠ [])) = true := h
    have h2 : openX d P none = some ([], 0) := by show (if _ then _ else _) = _; rw [h]; rfl
    simp at h1
    exact ⟨by rw [List.take_zero]; exact h2, by rw [List.take_zero]; exact RL.kids_pos (by simpa using h1.1) (.inl ⟨rfl, h1.2⟩), h1.1⟩
  · have hv : p[k - 1]? = some (p[k - 1]'(by omega)) := List.getElem?_eq_getElem (by omega)
    rw [hv] at hi
    obtain ⟨hil, hie⟩ := List.getElem?_eq_some_iff.1 hi
    have h1 : (decide (i < (RL.kids d P (p.take (k - 1))).length) && decide ((p.take (k - 1)).length + 1 < d)) = true := h
    simp at h1
    have hlen : (p.take (k - 1)).length = k - 1 := by simp; omega
    have hkd : k < d := by omega
    have hkey : keyV d P (some (p.take (k - 1), i)) = p[k - 1]'(by omega) := by
      show (RL.kids d P _).getD i _ = _
      rw [List.getD_eq_getElem?_getD, hi]
      rfl
    have htk : p.take (k - 1) ++ [p[k - 1]'(by omega)] = p.take k := by
      have := List.take_succ_eq_append_getElem (l := p) (i := k - 1) (by omega)
      rw [← this, show k - 1 + 1 = k by omega]
    have h2 : openX d P (some (p.take (k - 1), i)) = some (p.take k, 0) := by
      show (if _ then _ else _) = _
      rw [h, hkey, htk]
      rfl
    refine ⟨h2, RL.kids_pos (by simp; omega) (.inr ⟨k - 1, by simp; omega, ?_⟩), hkd⟩
    have := at_node hd hi
    rw [htk, hlen] at this
    exact this
theorem good_next {v : RL.V} (hk : k < p.length) (hv : p[k]? = some v) (hpos : 0 < (RL.kids d P (p.take k)).length) :
    (onX d P (seekX d P v (some (p.take k, 0))) = false → RL.kids d P p = []) ∧ (keyV d P (seekX d P v (some (p.take k, 0))) ≠ v → onX d P (seekX d P v (some (p.take k, 0))) = true → RL.kids d P p = []) ∧
    (keyV d P (seekX d P v (some (p.take k, 0))) = v → onX d P (seekX d P v (some (p.take k, 0))) = true → Good d P p (k + 1) (seekX d P v (some (p.take k, 0)))) := by
  have e : seekX d P v (some (p.take k, 0)) = some (p.take k, (RL.kids d P (p.take k)).countP fun u => decide (RL.cmpV u v < 0)) := by
    show (if _ then _ else _) = _
    rw [if_pos hpos, Nat.zero_max]
  rw [e]
  have hasc := RL.kids_asc hd (p.take k) (d := d)
  generalize hK : RL.kids d P (p.take k) = K at *
  have hmem : v ∈ K → ∃ h : (K.countP fun u => decide (RL.cmpV u v < 0)) < K.length, K[(K.countP fun u => decide (RL.cmpV u v < 0))] = v := fun hm => by
    obtain ⟨j, hj, rfl⟩ := List.getElem_of_mem hm
    have hc : (K.countP fun u => decide (RL.cmpV u K[j] < 0)) = j := countP_asc hasc (by omega) (fun i hi hij => List.pairwise_iff_getElem.1 hasc i j hi hj hij) (fun _ => by rw [RL.tot_cmpV.self]; omega)
    refine ⟨by rw [hc]; exact hj, ?_⟩
    simp only [hc]
  have hon : onX d P (some (p.take k, K.countP fun u => decide (RL.cmpV u v < 0))) = decide ((K.countP fun u => decide (RL.cmpV u v < 0)) < K.length) := by show decide (_ < (RL.kids d P (p.take k)).length) = _; rw [hK]
  have hkey : keyV d P (some (p.take k, K.countP fun u => decide (RL.cmpV u v < 0))) = K.getD (K.countP fun u => decide (RL.cmpV u v < 0)) ⟨0, 0, ⟨#[]⟩⟩ := by show (RL.kids d P (p.take k)).getD _ _ = _; rw [hK]
  rw [hon, hkey]
  refine ⟨fun h => kids_none hd hk hv (fun hm => ?_), fun h1 h2 => kids_none hd hk hv (fun hm => ?_), fun h1 h2 => ?_⟩
  · rw [hK] at hm
    obtain ⟨hlt, _⟩ := hmem hm
    simp at h
    omega
  · rw [hK] at hm
    obtain ⟨hlt, he⟩ := hmem hm
    apply h1
    rw [List.getD_eq_getElem?_getD, List.getElem?_eq_getElem hlt, he]
    rfl
  · simp only [decide_eq_true_eq] at h2
    refine .inr ⟨_, by omega, by omega, rfl, ?_⟩
    rw [show k + 1 - 1 = k by omega, hK, hv, List.getElem?_eq_getElem h2]
    rw [List.getD_eq_getElem?_getD, List.getElem?_eq_getElem h2] at h1
    exact congrArg some h1
end

/-- The values below q stand in a row in their level. -/
theorem kids_range (d : Nat) (P : List RL.R) (q : RL.R) : RL.kids d P q = ((vsF d P q.length).drop (RL.lo d P q)).take (RL.kids d P q).length := by
  conv => rhs; rw [RL.kids_len]
  unfold RL.kids vsF RL.lo
  rw [RL.filter_range (RL.nodes_ss d P q.length) q, List.map_take, List.map_drop]
theorem kids_cells {B : Nat} {w : World} {d : Nat} {P : List RL.R} {q : RL.R} {A : Option Addr} (h : SlR B w A (vsF d P q.length)) (hpos : 0 < (RL.kids d P q).length) :
    ∃ b o, A = some ⟨b, o, none⟩ ∧ b < B ∧ ∀ i u, (rcells (RL.kids d P q))[i]? = some u → w.cell? ⟨b, o + RL.lo d P q * 3 + i, none⟩ = some u := by
  have hfit := RL.kids_fit (d := d) (P := P) q
  rw [← vsF_len] at hfit
  have hne : rcells (vsF d P q.length) ≠ [] := by
    intro h0
    have := congrArg List.length h0
    rw [rcells_length] at this
    simp only [List.length_nil] at this
    omega
  obtain ⟨b, o, e, hb, hc⟩ := h hne
  refine ⟨b, o, e, hb, fun i u hu => ?_⟩
  have hil : i < (RL.kids d P q).length * 3 := by
    have := (List.getElem?_eq_some_iff.1 hu).1
    rw [rcells_length] at this
    exact this
  rw [Nat.add_assoc]
  apply hc
  rw [kids_range, rcells_take, rcells_drop, List.getElem?_take_of_lt hil, List.getElem?_drop] at hu
  exact hu

end Go.Proofs.Ytlcammcifjihpaa

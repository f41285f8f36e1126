/- Plain: the parents that the reduction gives are a join tree. -/
import Derived.Test.YtfiegiifoekfmaaJGyo
namespace Go.Proofs.Ytfiegiifoekfmaa.JT

def putPar (ps : List Int) (t : Stp) : List Int := if 0 ≤ t.2.1 then ps.set t.1 t.2.1 else ps
def buildPar (m : Nat) (S : List Stp) : List Int := S.foldl putPar (List.replicate m (-1))
theorem buildPar_snoc (m : Nat) (S : List Stp) (t : Stp) : buildPar m (S ++ [t]) = putPar (buildPar m S) t := by simp [buildPar, List.foldl_append]

def isoS (S : List Stp) (e v : Nat) : Prop := (e, (-1 : Int), (v : Int)) ∈ S
def parS (S : List Stp) (e i : Nat) : Prop := (e, (i : Int), (-1 : Int)) ∈ S

theorem isoS_absorb {S : List Stp} {e i x v : Nat} : isoS (S ++ [(e, (i : Int), -1)]) x v ↔ isoS S x v := by
  unfold isoS
  simp only [List.mem_append, List.mem_singleton, Prod.mk.injEq]
  constructor
  · rintro (h | ⟨_, h, _⟩)
    · exact h
    · omega
  · exact .inl
theorem parS_absorb {S : List Stp} {e i x j : Nat} : parS (S ++ [(e, (i : Int), -1)]) x j ↔ parS S x j ∨ (x = e ∧ j = i) := by
  unfold parS
  simp only [List.mem_append, List.mem_singleton, Prod.mk.injEq]
  constructor
  · rintro (h | ⟨h1, h2, _⟩)
    · exact .inl h
    · exact .inr ⟨h1, by omega⟩
  · rintro (h | ⟨h1, h2⟩)
    · exact .inl h
    · exact .inr ⟨h1, by omega, trivial⟩
theorem isoS_isolate {S : List Stp} {e v x u : Nat} : isoS (S ++ [(e, -1, (v : Int))]) x u ↔ isoS S x u ∨ (x = e ∧ u = v) := by
  unfold isoS
  simp only [List.mem_append, List.mem_singleton, Prod.mk.injEq]
  constructor
  · rintro (h | ⟨h1, _, h2⟩)
    · exact .inl h
    · exact .inr ⟨h1, by omega⟩
  · rintro (h | ⟨h1, h2⟩)
    · exact .inl h
    · exact .inr ⟨h1, trivial, by omega⟩
theorem parS_isolate {S : List Stp} {e v x j : Nat} : parS (S ++ [(e, -1, (v : Int))]) x j ↔ parS S x j := by
  unfold parS
  simp only [List.mem_append, List.mem_singleton, Prod.mk.injEq]
  constructor
  · rintro (h | ⟨_, h, _⟩)
    · exact h
    · omega
  · exact .inl

abbrev bit (l : List Nat) (e v : Nat) : Prop := (l[e]?.getD 0).testBit v = true

structure Snd (es : List Nat) (s : Red) : Prop where
  shape : ∀ t ∈ s.steps, t.1 < es.length ∧ t.2.1 < es.length ∧ -1 ≤ t.2.1
  sub : ∀ e v, bit s.rest e v → bit es e v
  keep : ∀ e : Nat, s.rem[e]? = some false → ∀ v, bit es e v → bit s.rest e v ∨ isoS s.steps e v
  isoR : ∀ e v, isoS s.steps e v → ∀ e', ¬ bit s.rest e' v
  iso1 : ∀ e e' v, isoS s.steps e v → isoS s.steps e' v → e = e'
  parD : ∀ e : Nat, s.rem[e]? = some true → ∃ i, parS s.steps e i ∧ ∀ v, bit es e v → bit es i v ∨ isoS s.steps e v
  parR : ∀ e i, parS s.steps e i → s.rem[e]? = some true
  par1 : ∀ e i i', parS s.steps e i → parS s.steps e i' → i = i'
  ord : ∃ D : List Nat, D.Nodup ∧ (∀ e : Nat, e ∈ D ↔ s.rem[e]? = some true) ∧ ∀ e i, parS s.steps e i → D.idxOf e < D.idxOf i
  alive : ∃ e : Nat, s.rem[e]? = some false
  plen : (buildPar es.length s.steps).length = es.length
  pAt : ∀ e i, parS s.steps e i → (buildPar es.length s.steps)[e]? = some (i : Int)
  pNo : ∀ e : Nat, s.rem[e]? = some false → (buildPar es.length s.steps)[e]? = some (-1)

theorem Snd.start {es : List Nat} (hm : 0 < es.length) : Snd es (startF es) := by
  have hr : ∀ e : Nat, (startF es).rem[e]? = if e < es.length then some false else none := fun e => by
    simp [startF, List.getElem?_replicate]
  refine ⟨by simp [startF], fun _ _ h => h, fun _ _ _ h => .inl h, by simp [startF, isoS], by simp [startF, isoS], fun e he => ?_, by simp [startF, parS], by simp [startF, parS], ⟨[], List.nodup_nil, fun e => ?_, by simp [startF, parS]⟩, ⟨0, by simp [hr, hm]⟩, by simp [startF, buildPar], by simp [startF, parS], fun e he => ?_⟩
  · rw [hr] at he; split at he <;> simp at he
  · rw [hr]; split <;> simp
  · rw [hr] at he
    split at he
    · next h => simp [startF, buildPar, h]
    · simp at he

theorem bit_set {R : List Nat} {e x v y : Nat} (h : bit (R.set e y) x v) : (x = e ∧ y.testBit v = true) ∨ (x ≠ e ∧ bit R x v) := by
  unfold bit at h ⊢
  by_cases hx : e = x
  · subst hx
    left
    refine ⟨rfl, ?_⟩
    by_cases hl : e < R.length
    · simpa [hl] using h
    · rw [List.getElem?_set_self' ] at h
      simp [List.getElem?_eq_none (Nat.le_of_not_lt hl)] at h
  · right
    rw [List.getElem?_set_ne hx] at h
    exact ⟨fun e' => hx e'.symm, h⟩
theorem bit_set_ne {R : List Nat} {e x v y : Nat} (hx : x ≠ e) : bit (R.set e y) x v ↔ bit R x v := by
  unfold bit
  rw [List.getElem?_set_ne (fun h => hx h.symm)]

theorem sub_of_dif {a b v : Nat} (ha : a < 4294967296) (hb : b < 4294967296) (h : dif a b = 0) (hv : a.testBit v = true) : b.testBit v = true := by
  have := testBit_dif a b v ha hb
  rw [h, hv] at this
  simpa using this

theorem idxOf_snoc_mem {D : List Nat} {e x : Nat} (h : x ∈ D) : (D ++ [e]).idxOf x = D.idxOf x := by
  rw [List.idxOf_append, if_pos h]
theorem idxOf_snoc_not {D : List Nat} {e x : Nat} (h : x ∉ D) : (D ++ [e]).idxOf x = D.length + [e].idxOf x := by
  rw [List.idxOf_append, if_neg h]; omega

theorem Snd.absorb {es : List Nat} {s : Red} {e i : Nat} (h : Snd es s) (hok : RedOk es.length s) (ha : IsAbsorb s.rest s.rem e i) : Snd es ⟨s.rest.set e 0, s.rem.set e true, s.steps ++ [(e, (i : Int), -1)]⟩ := by
  obtain ⟨h1, h2, h3, _, _⟩ := ha
  obtain ⟨p1, p2, p3, p4⟩ := absorbs_parts h3
  rw [hok.lrest] at h1 h2
  have hel : e < s.rem.length := by rw [hok.lrem]; exact h1
  have hrem : ∀ x : Nat, (s.rem.set e true)[x]? = if x = e then some true else s.rem[x]? := fun x => by
    by_cases hx : e = x
    · subst hx; simp [hel]
    · rw [List.getElem?_set_ne hx, if_neg (fun h => hx h.symm)]
  have hsub : ∀ x v, bit (s.rest.set e 0) x v → bit s.rest x v := fun x v hb => by
    rcases bit_set hb with ⟨_, h0⟩ | ⟨_, h0⟩
    · simp at h0
    · exact h0
  refine ⟨fun t ht => ?_, fun x v hb => h.sub x v (hsub x v hb), fun x hx v hb => ?_, fun x v hi x' hb => ?_, fun x x' v hi hi' => ?_, fun x hx => ?_, fun x j hp => ?_, fun x j j' hp hp' => ?_, ?_, ⟨i, ?_⟩, ?_, fun x j hp => ?_, fun x hx => ?_⟩
  · simp only [List.mem_append, List.mem_singleton] at ht
    rcases ht with ht | rfl
    · exact h.shape t ht
    · simp only; omega
  · simp only [hrem] at hx
    split at hx
    · simp at hx
    · next hne =>
      rcases h.keep x hx v hb with h4 | h4
      · exact .inl ((bit_set_ne hne).2 h4)
      · exact .inr (isoS_absorb.2 h4)
  · exact h.isoR x v (isoS_absorb.1 hi) x' (hsub x' v hb)
  · exact h.iso1 x x' v (isoS_absorb.1 hi) (isoS_absorb.1 hi')
  · simp only [hrem] at hx
    split at hx
    · next hxe =>
      subst hxe
      refine ⟨i, parS_absorb.2 (.inr ⟨rfl, rfl⟩), fun v hb => ?_⟩
      rcases h.keep x p2 v hb with h4 | h4
      · exact .inl (h.sub i v (sub_of_dif (hok.u32.get x) (hok.u32.get i) p4 h4))
      · exact .inr (isoS_absorb.2 h4)
    · obtain ⟨j, hj, hv⟩ := h.parD x hx
      exact ⟨j, parS_absorb.2 (.inl hj), fun v hb => (hv v hb).imp id isoS_absorb.2⟩
  · simp only [hrem]
    rcases parS_absorb.1 hp with h4 | ⟨rfl, rfl⟩
    · split
      · rfl
      · exact h.parR x j h4
    · simp
  · rcases parS_absorb.1 hp with h4 | ⟨rfl, rfl⟩
    · rcases parS_absorb.1 hp' with h5 | ⟨rfl, rfl⟩
      · exact h.par1 x j j' h4 h5
      · have := h.parR x j h4; rw [p2] at this; simp at this
    · rcases parS_absorb.1 hp' with h5 | ⟨_, rfl⟩
      · have := h.parR x j' h5; rw [p2] at this; simp at this
      · rfl
  · obtain ⟨D, hD1, hD2, hD3⟩ := h.ord
    have heD : e ∉ D := fun hm => by have := (hD2 e).1 hm; rw [p2] at this; simp at this
    have hiD : i ∉ D := fun hm => by have := (hD2 i).1 hm; rw [p3] at this; simp at this
    refine ⟨D ++ [e], ?_, fun x => ?_, fun x j hp => ?_⟩
    · rw [List.nodup_append]
      exact ⟨hD1, by simp, fun a ha b hb => by simp at hb; subst hb; exact fun h => heD (h ▸ ha)⟩
    · simp only [hrem, List.mem_append, List.mem_singleton, hD2]
      split
      · next h => simp [h]
      · next h => simp [h]
    · rcases parS_absorb.1 hp with h4 | ⟨rfl, rfl⟩
      · have hxD : x ∈ D := (hD2 x).2 (h.parR x j h4)
        have hlt := hD3 x j h4
        rw [idxOf_snoc_mem hxD]
        by_cases hj : j ∈ D
        · rw [idxOf_snoc_mem hj]; exact hlt
        · rw [idxOf_snoc_not hj]
          have := List.idxOf_lt_length_of_mem hxD
          omega
      · have e1 : ([x] : List Nat).idxOf j = 1 := by
          have hb : (x == j) = false := by simpa using p1
          simp [List.idxOf_cons, hb]
        rw [idxOf_snoc_not heD, idxOf_snoc_not hiD, List.idxOf_cons_self, e1]
        omega
  · simp only [hrem]; rw [if_neg (fun h => p1 h.symm)]; exact p3
  · simp only [buildPar_snoc, putPar]
    split
    · rw [List.length_set]; exact h.plen
    · exact h.plen
  · simp only [buildPar_snoc, putPar]
    rw [if_pos (by simp)]
    rcases parS_absorb.1 hp with h4 | ⟨rfl, rfl⟩
    · have hne : e ≠ x := fun he => by subst he; have := h.parR e j h4; rw [p2] at this; simp at this
      rw [List.getElem?_set_ne hne]
      exact h.pAt x j h4
    · rw [List.getElem?_set_self (by rw [h.plen]; exact h1)]
  · simp only [hrem] at hx
    split at hx
    · simp at hx
    · next hne =>
      simp only [buildPar_snoc, putPar]
      rw [if_pos (by simp), List.getElem?_set_ne (fun h => hne h.symm)]
      exact h.pNo x hx

theorem vcnt_one {R : List Nat} {v : Nat} (h : vcnt R v R.length = 1) {x y : Nat} (hx : has (R[x]?.getD 0) v = true) (hy : has (R[y]?.getD 0) v = true) : x = y := by
  have hlt : ∀ z, has (R[z]?.getD 0) v = true → z < R.length := fun z hz => by
    refine Classical.byContradiction fun hn => ?_
    rw [List.getElem?_eq_none (Nat.le_of_not_lt hn)] at hz
    simp [has] at hz
  have h1 := (countP_le_one (fun i => has (R[i]?.getD 0) v) R.length).1 (by unfold vcnt nodesTo at h; omega)
  rcases Nat.lt_trichotomy x y with hxy | hxy | hxy
  · exact absurd ⟨hx, hy⟩ (h1 x y hxy (hlt y hy))
  · exact hxy
  · exact absurd ⟨hy, hx⟩ (h1 y x hxy (hlt x hx))

theorem Snd.isolate {es : List Nat} {s : Red} {n e v : Nat} (h : Snd es s) (hok : RedOk es.length s) (hn : n ≤ 32) (hv : v < n) (h1 : vcnt s.rest v s.rest.length = 1) (he : e = vlast s.rest v s.rest.length) :
    Snd es ⟨s.rest.set e (dif (s.rest[e]?.getD 0) (2 ^ v)), s.rem, s.steps ++ [(e, -1, (v : Int))]⟩ := by
  have hl := vlast_has (R := s.rest) (v := v) s.rest.length (by omega)
  rw [← he] at hl
  obtain ⟨hel, heh⟩ := hl
  have hb := hok.u32.get e
  have h2v : 2 ^ v < 4294967296 := by
    have : 2 ^ v < 2 ^ 32 := Nat.pow_lt_pow_right (by omega) (by omega)
    omega
  have hbits : ∀ u, (dif (s.rest[e]?.getD 0) (2 ^ v)).testBit u = ((s.rest[e]?.getD 0).testBit u && !(decide (v = u))) := fun u => by
    rw [testBit_dif _ _ _ hb h2v, Nat.testBit_two_pow]
  have hsub : ∀ x u, bit (s.rest.set e (dif (s.rest[e]?.getD 0) (2 ^ v))) x u → bit s.rest x u ∧ (x = e → u ≠ v) := fun x u hbx => by
    rcases bit_set hbx with ⟨rfl, h0⟩ | ⟨hne, h0⟩
    · rw [hbits] at h0
      simp only [Bool.and_eq_true, Bool.not_eq_true', decide_eq_false_iff_not] at h0
      exact ⟨h0.1, fun _ hu => h0.2 hu.symm⟩
    · exact ⟨h0, fun hxe => absurd hxe hne⟩
  have heb : bit s.rest e v := by unfold bit; rw [← has_eq]; exact heh
  have honly : ∀ x, bit s.rest x v → x = e := fun x hx => vcnt_one h1 (by rw [has_eq]; exact hx) heh
  refine ⟨fun t ht => ?_, fun x u hbx => h.sub x u (hsub x u hbx).1, fun x hx u hbx => ?_, fun x u hi x' hbx => ?_, fun x x' u hi hi' => ?_, fun x hx => ?_, fun x j hp => h.parR x j (parS_isolate.1 hp), fun x j j' hp hp' => h.par1 x j j' (parS_isolate.1 hp) (parS_isolate.1 hp'), ?_, h.alive, ?_, fun x j hp => ?_, fun x hx => ?_⟩
  · simp only [List.mem_append, List.mem_singleton] at ht
    rcases ht with ht | rfl
    · exact h.shape t ht
    · rw [hok.lrest] at hel; simp only; omega
  · rcases h.keep x hx u hbx with h4 | h4
    · by_cases hxe : x = e
      · subst hxe
        by_cases huv : u = v
        · exact .inr (isoS_isolate.2 (.inr ⟨rfl, huv⟩))
        · left
          unfold bit
          rw [List.getElem?_set_self hel]
          simp only [Option.getD_some]
          rw [hbits]
          have h4' : (s.rest[x]?.getD 0).testBit u = true := h4
          rw [h4']
          simp
          exact fun h => huv h.symm
      · exact .inl ((bit_set_ne hxe).2 h4)
    · exact .inr (isoS_isolate.2 (.inl h4))
  · have h5 := hsub x' u hbx
    rcases isoS_isolate.1 hi with h4 | ⟨rfl, rfl⟩
    · exact h.isoR x u h4 x' h5.1
    · exact h5.2 (honly x' h5.1) rfl
  · rcases isoS_isolate.1 hi with h4 | ⟨rfl, rfl⟩
    · rcases isoS_isolate.1 hi' with h5 | ⟨rfl, rfl⟩
      · exact h.iso1 x x' u h4 h5
      · exact absurd heb (h.isoR x u h4 x')
    · rcases isoS_isolate.1 hi' with h5 | ⟨rfl, _⟩
      · exact absurd heb (h.isoR x' u h5 x)
      · rfl
  · obtain ⟨j, hj, hvj⟩ := h.parD x hx
    exact ⟨j, parS_isolate.2 hj, fun u hbx => (hvj u hbx).imp id fun h => isoS_isolate.2 (.inl h)⟩
  · obtain ⟨D, hD1, hD2, hD3⟩ := h.ord
    exact ⟨D, hD1, hD2, fun x j hp => hD3 x j (parS_isolate.1 hp)⟩
  · simp only [buildPar_snoc, putPar]
    rw [if_neg (by omega)]; exact h.plen
  · simp only [buildPar_snoc, putPar]
    rw [if_neg (by omega)]; exact h.pAt x j (parS_isolate.1 hp)
  · simp only [buildPar_snoc, putPar]
    rw [if_neg (by omega)]; exact h.pNo x hx

theorem Snd.step {es : List Nat} {n : Nat} {s s' : Red} (h : Snd es s) (hok : RedOk es.length s) (hn : n ≤ 32) (hs : StepIs n s s') : Snd es s' := by
  cases hs with
  | absorb e i ha => exact h.absorb hok ha
  | isolate e v hno hv h1 hu he => exact h.isolate hok hn hv h1 he

theorem Snd.run {es : List Nat} {n : Nat} (hn : n ≤ 32) : ∀ f s, Snd es s → RedOk es.length s → Snd es (runF n f s)
  | 0, s, h, _ => h
  | f + 1, s, h, hok => by
    unfold runF
    cases hs : stepF n s with
    | none => exact h
    | some s' => exact Snd.run hn f s' (h.step hok hn (stepF_is hs)) ((stepF_is hs).ok hok hn).1

theorem reduce_snd {es : List Nat} {n : Nat} (hu : U32 es) (hn : n ≤ 32) (hm : 0 < es.length) : Snd es (reduceF n es) := Snd.run hn _ _ (Snd.start hm) (RedOk.start hu)

theorem rank_up {ps : List Int} {t : Nat → Nat} (hv : ∀ p ∈ ps, -1 ≤ p ∧ p < ps.length) (ht : ∀ e, e < ps.length → t e < ps.length) (hinc : ∀ e p : Nat, e < ps.length → par ps e = (p : Int) → t e < t p) :
    ∀ e, e < ps.length → up ps ps.length (e : Int) < 0 := by
  have key : ∀ (k e : Nat), e < ps.length → up ps k (e : Int) < 0 ∨ ∃ x : Nat, up ps k (e : Int) = (x : Int) ∧ x < ps.length ∧ t e + k ≤ t x := by
    intro k
    induction k with
    | zero => intro e he; exact .inr ⟨e, rfl, he, by omega⟩
    | succ k ih =>
      intro e he
      rw [up_succ he]
      have hpar : par ps e = ps[e] := by simp [par, he]
      have hb := hv ps[e] (List.getElem_mem he)
      by_cases hneg : par ps e < 0
      · exact .inl (by rw [up_neg hneg]; exact hneg)
      · obtain ⟨p, hp⟩ := Int.eq_ofNat_of_zero_le (show 0 ≤ par ps e by omega)
        have h1 := hinc e p he hp
        rw [hp]
        rcases ih p (by omega) with h2 | ⟨x, h2, h3, h4⟩
        · exact .inl h2
        · exact .inr ⟨x, h2, h3, by omega⟩
  intro e he
  rcases key ps.length e he with h | ⟨x, _, h2, h3⟩
  · exact h
  · have := ht x h2; omega

theorem countP_list (l : List Int) (p : Int → Bool) (d : Int) : l.countP p = (List.range l.length).countP fun i => p (l[i]?.getD d) := by
  have h : l = (List.range l.length).map fun i => l[i]?.getD d := by
    apply List.ext_getElem
    · simp
    · intro i h1 h2
      simp [h1]
  conv => lhs; rw [h]
  rw [List.countP_map]
  rfl

/-- The reduction removes everything: the parents are a join tree. -/
theorem gyo_sound {es : List Nat} {n : Nat} (hk : hgCheckF n es = 0) (hm : 0 < es.length) (hz : (reduceF n es).rest.all (fun z => z == 0) = true) :
    (buildPar es.length (reduceF n es).steps).length = es.length ∧ chkF n es (buildPar es.length (reduceF n es).steps) = 0 := by
  obtain ⟨n', hn', hn32, _, hN⟩ := hgCheckF_zero hk
  obtain rfl : n = n' := by omega
  have hu : U32 es := fun e he => by
    have := hN e he
    have : 2 ^ n ≤ 2 ^ 32 := Nat.pow_le_pow_right (by omega) hn32
    omega
  have hS := reduce_snd hu hn32 hm
  have hok := reduceF_ok hu hn32
  have hend := reduceF_end hu hn32
  generalize reduceF n es = s at *
  have hzero : ∀ e : Nat, s.rest[e]?.getD 0 = 0 := fun e => by
    by_cases he : e < s.rest.length
    · rw [List.all_eq_true] at hz
      have := hz s.rest[e] (List.getElem_mem he)
      simp [he]
      simpa using this
    · simp [List.getElem?_eq_none (Nat.le_of_not_lt he)]
  have hno : NoAbsorb s.rest s.rem := by
    intro e he i hi
    cases ha : absorbF s.rest s.rem with
    | none =>
      unfold absorbF at ha
      rw [List.findSome?_eq_none_iff] at ha
      have h3 := ha e (List.mem_range.2 he)
      rw [Option.map_eq_none_iff, List.find?_eq_none] at h3
      simpa using h3 i (List.mem_range.2 hi)
    | some p => unfold stepF at hend; rw [ha] at hend; simp at hend
  have hone : ∀ e i : Nat, s.rem[e]? = some false → s.rem[i]? = some false → e = i := by
    intro e i he hi
    refine Classical.byContradiction fun hne => ?_
    have hel := (List.getElem?_eq_some_iff.1 he).1
    have hil := (List.getElem?_eq_some_iff.1 hi).1
    rw [hok.lrem, ← hok.lrest] at hel hil
    have h1 := hno e hel i hil
    have h2 : absorbs s.rest s.rem e i = true := by
      unfold absorbs
      rw [he, hi, hzero e, hzero i]
      simp [hne, dif]
    rw [h2] at h1
    cases h1
  obtain ⟨r, hr⟩ := hS.alive
  have hpl := hS.plen
  have hcase : ∀ e, e < es.length → (e = r ∧ s.rem[e]? = some false) ∨ (e ≠ r ∧ s.rem[e]? = some true) := by
    intro e he
    have hl : e < s.rem.length := by rw [hok.lrem]; exact he
    cases hb : s.rem[e] with
    | false => left; have h1 : s.rem[e]? = some false := by rw [List.getElem?_eq_getElem hl, hb]
               exact ⟨hone e r h1 hr, h1⟩
    | true => right; have h1 : s.rem[e]? = some true := by rw [List.getElem?_eq_getElem hl, hb]
              exact ⟨fun h => by subst h; rw [hr] at h1; simp at h1, h1⟩
  have hrl : r < es.length := by have := (List.getElem?_eq_some_iff.1 hr).1; rw [hok.lrem] at this; exact this
  have hval : ∀ e, e < es.length → (e = r ∧ (buildPar es.length s.steps)[e]? = some (-1)) ∨ (e ≠ r ∧ ∃ i : Nat, i < es.length ∧ (buildPar es.length s.steps)[e]? = some (i : Int) ∧ parS s.steps e i) := by
    intro e he
    rcases hcase e he with ⟨h1, h2⟩ | ⟨h1, h2⟩
    · exact .inl ⟨h1, hS.pNo e h2⟩
    · obtain ⟨i, hi, _⟩ := hS.parD e h2
      have hsh := hS.shape _ hi
      exact .inr ⟨h1, i, by simp only at hsh; omega, hS.pAt e i hi, hi⟩
  generalize hps : buildPar es.length s.steps = ps at *
  have hvalid : ∀ p ∈ ps, -1 ≤ p ∧ p < ps.length := by
    intro p hp
    obtain ⟨e, he, rfl⟩ := List.getElem_of_mem hp
    rcases hval e (by omega) with ⟨_, h2⟩ | ⟨_, i, h2, h3, _⟩
    · rw [List.getElem?_eq_getElem he] at h2; injection h2 with h2; omega
    · rw [List.getElem?_eq_getElem he] at h3; injection h3 with h3; omega
  have hroots : rootsF ps = 1 := by
    unfold rootsF
    rw [countP_list ps _ 0]
    have hle := (countP_le_one (fun i => decide (ps[i]?.getD 0 < 0)) ps.length).2 (by
      rintro i j hij hj ⟨h1, h2⟩
      have a1 : i = r := by
        rcases hval i (by omega) with ⟨h3, _⟩ | ⟨_, q, _, h3, _⟩
        · exact h3
        · rw [h3] at h1; simp at h1; omega
      have a2 : j = r := by
        rcases hval j (by omega) with ⟨h3, _⟩ | ⟨_, q, _, h3, _⟩
        · exact h3
        · rw [h3] at h2; simp at h2; omega
      omega)
    have hge : 0 < (List.range ps.length).countP (fun i => decide (ps[i]?.getD 0 < 0)) := by
      rw [List.countP_pos_iff]
      refine ⟨r, List.mem_range.2 (by omega), ?_⟩
      rcases hval r hrl with ⟨_, h3⟩ | ⟨h3, _⟩
      · rw [h3]; simp
      · exact absurd rfl h3
    omega
  have hup : ∀ e, e < ps.length → up ps ps.length (e : Int) < 0 := by
    obtain ⟨D, hD1, hD2, hD3⟩ := hS.ord
    have hDl : D.length < ps.length := by
      have hrD : r ∉ D := fun hm => by have := (hD2 r).1 hm; rw [hr] at this; simp at this
      have h1 : (r :: D).Nodup := List.nodup_cons.2 ⟨hrD, hD1⟩
      have h2 := nodup_le (m := List.range ps.length) h1 fun x hx => by
        simp at hx; rcases hx with rfl | hx
        · exact List.mem_range.2 (by omega)
        · have := (List.getElem?_eq_some_iff.1 ((hD2 x).1 hx)).1
          rw [hok.lrem] at this
          exact List.mem_range.2 (by omega)
      simp at h2; omega
    refine rank_up (t := fun e => D.idxOf e) hvalid (fun e _ => ?_) (fun e p he hp => ?_)
    · have : D.idxOf e ≤ D.length := List.idxOf_le_length
      omega
    · rcases hval e (by omega) with ⟨_, h3⟩ | ⟨_, i, _, h3, h4⟩
      · unfold par at hp; rw [h3] at hp; simp at hp
      · unfold par at hp; rw [h3] at hp
        simp at hp
        have : i = p := by omega
        subst this
        exact hD3 e i h4
  have hrooted : rootedB ps = true := rootedB_true hvalid hroots hup
  refine ⟨hpl, chkF_ok hk hpl hrooted ?_⟩
  rw [topsOk_iff]
  have htop : ∀ v e, e < es.length → (topF es ps e).testBit v = true → isoS s.steps e v := by
    intro v e he ht
    rw [topF_bit hu hpl hvalid he, Bool.and_eq_true, has_eq] at ht
    obtain ⟨ht1, ht2⟩ := ht
    rcases hcase e he with ⟨_, h2⟩ | ⟨_, h2⟩
    · rcases hS.keep e h2 v ht1 with h3 | h3
      · unfold bit at h3; rw [hzero e] at h3; simp at h3
      · exact h3
    · obtain ⟨i, hi, hvi⟩ := hS.parD e h2
      rcases hvi v ht1 with h3 | h3
      · exfalso
        have h4 := hS.pAt e i hi
        rw [hps] at h4
        rw [h4] at ht2
        simp only [Option.getD_some, Int.toNat_natCast, Bool.not_eq_true', Bool.and_eq_false_iff, decide_eq_false_iff_not] at ht2
        rcases ht2 with h5 | h5
        · omega
        · rw [has_eq] at h5
          unfold bit at h3
          rw [h3] at h5
          cases h5
      · exact h3
  rintro v i j hij hj ⟨h1, h2⟩
  have := hS.iso1 i j v (htop v i (by omega) h1) (htop v j hj h2)
  omega

end Go.Proofs.Ytfiegiifoekfmaa.JT

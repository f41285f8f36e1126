/- Parts of the proof, merged: JSound, JComp, JRip, GY1. -/
import Derived.Test.YthgaflmldbgbnaaDoorQ6
import Derived.Test.YthgaflmldbgbnaaDoorQ3

section
/- Plain: the parents that the reduction gives are a join tree. -/
namespace Go.Proofs.YthgaflmldbgbnaaDoor.JT

def putPar (ps : List Int) (t : Stp) : List Int := if 0 ≤ t.2.1 then ps.set t.1 t.2.1 else ps
def buildPar (m : Nat) (S : List Stp) : List Int := S.foldl putPar (List.replicate m (-1))
theorem buildPar_snoc (m : Nat) (S : List Stp) (t : Stp) : buildPar m (S ++ [t]) = putPar (buildPar m S) t := by simp [buildPar, List.foldl_append]

def isoS (S : List Stp) (e v : Nat) : Prop := (e, (-1 : Int), (v : Int)) ∈ S
def parS (S : List Stp) (e i : Nat) : Prop := (e, (i : Int), (-1 : Int)) ∈ S

theorem isoS_absorb {S : List Stp} {e i x v : Nat} : isoS (S ++ [(e, (i : Int), -1)]) x v ↔ isoS S x v := by
  unfold isoS
  simp only [List.mem_append, List.mem_singleton, Prod.mk.injEq]
  constructor
  · rintro (h | ⟨_, h, _⟩)
    · exact h
    · omega
  · exact .inl
theorem parS_absorb {S : List Stp} {e i x j : Nat} : parS (S ++ [(e, (i : Int), -1)]) x j ↔ parS S x j ∨ (x = e ∧ j = i) := by
  unfold parS
  simp only [List.mem_append, List.mem_singleton, Prod.mk.injEq]
  constructor
  · rintro (h | ⟨h1, h2, _⟩)
    · exact .inl h
    · exact .inr ⟨h1, by omega⟩
  · rintro (h | ⟨h1, h2⟩)
    · exact .inl h
    · exact .inr ⟨h1, by omega, trivial⟩
theorem isoS_isolate {S : List Stp} {e v x u : Nat} : isoS (S ++ [(e, -1, (v : Int))]) x u ↔ isoS S x u ∨ (x = e ∧ u = v) := by
  unfold isoS
  simp only [List.mem_append, List.mem_singleton, Prod.mk.injEq]
  constructor
  · rintro (h | ⟨h1, _, h2⟩)
    · exact .inl h
    · exact .inr ⟨h1, by omega⟩
  · rintro (h | ⟨h1, h2⟩)
    · exact .inl h
    · exact .inr ⟨h1, trivial, by omega⟩
theorem parS_isolate {S : List Stp} {e v x j : Nat} : parS (S ++ [(e, -1, (v : Int))]) x j ↔ parS S x j := by
  unfold parS
  simp only [List.mem_append, List.mem_singleton, Prod.mk.injEq]
  constructor
  · rintro (h | ⟨_, h, _⟩)
    · exact h
    · omega
  · exact .inl

abbrev bit (l : List Nat) (e v : Nat) : Prop := (l[e]?.getD 0).testBit v = true

structure Snd (es : List Nat) (s : Red) : Prop where
  shape : ∀ t ∈ s.steps, t.1 < es.length ∧ t.2.1 < es.length ∧ -1 ≤ t.2.1
  sub : ∀ e v, bit s.rest e v → bit es e v
  keep : ∀ e : Nat, s.rem[e]? = some false → ∀ v, bit es e v → bit s.rest e v ∨ isoS s.steps e v
  isoR : ∀ e v, isoS s.steps e v → ∀ e', ¬ bit s.rest e' v
  iso1 : ∀ e e' v, isoS s.steps e v → isoS s.steps e' v → e = e'
  parD : ∀ e : Nat, s.rem[e]? = some true → ∃ i, parS s.steps e i ∧ ∀ v, bit es e v → bit es i v ∨ isoS s.steps e v
  parR : ∀ e i, parS s.steps e i → s.rem[e]? = some true
  par1 : ∀ e i i', parS s.steps e i → parS s.steps e i' → i = i'
  ord : ∃ D : List Nat, D.Nodup ∧ (∀ e : Nat, e ∈ D ↔ s.rem[e]? = some true) ∧ ∀ e i, parS s.steps e i → D.idxOf e < D.idxOf i
  alive : ∃ e : Nat, s.rem[e]? = some false
  plen : (buildPar es.length s.steps).length = es.length
  pAt : ∀ e i, parS s.steps e i → (buildPar es.length s.steps)[e]? = some (i : Int)
  pNo : ∀ e : Nat, s.rem[e]? = some false → (buildPar es.length s.steps)[e]? = some (-1)

theorem Snd.start {es : List Nat} (hm : 0 < es.length) : Snd es (startF es) := by
  have hr : ∀ e : Nat, (startF es).rem[e]? = if e < es.length then some false else none := fun e => by
    simp [startF, List.getElem?_replicate]
  refine ⟨by simp [startF], fun _ _ h => h, fun _ _ _ h => .inl h, by simp [startF, isoS], by simp [startF, isoS], fun e he => ?_, by simp [startF, parS], by simp [startF, parS], ⟨[], List.nodup_nil, fun e => ?_, by simp [startF, parS]⟩, ⟨0, by simp [hr, hm]⟩, by simp [startF, buildPar], by simp [startF, parS], fun e he => ?_⟩
  · rw [hr] at he; split at he <;> simp at he
  · rw [hr]; split <;> simp
  · rw [hr] at he
    split at he
    · next h => simp [startF, buildPar, h]
    · simp at he

theorem bit_set {R : List Nat} {e x v y : Nat} (h : bit (R.set e y) x v) : (x = e ∧ y.testBit v = true) ∨ (x ≠ e ∧ bit R x v) := by
  unfold bit at h ⊢
  by_cases hx : e = x
  · subst hx
    left
    refine ⟨rfl, ?_⟩
    by_cases hl : e < R.length
    · simpa [hl] using h
    · rw [List.getElem?_set_self' ] at h
      simp [List.getElem?_eq_none (Nat.le_of_not_lt hl)] at h
  · right
    rw [List.getElem?_set_ne hx] at h
    exact ⟨fun e' => hx e'.symm, h⟩
theorem bit_set_ne {R : List Nat} {e x v y : Nat} (hx : x ≠ e) : bit (R.set e y) x v ↔ bit R x v := by
  unfold bit
  rw [List.getElem?_set_ne (fun h => hx h.symm)]

theorem sub_of_dif {a b v : Nat} (ha : a < 4294967296) (hb : b < 4294967296) (h : dif a b = 0) (hv : a.testBit v = true) : b.testBit v = true := by
  have := testBit_dif a b v ha hb
  rw [h, hv] at this
  simpa using this

theorem idxOf_snoc_mem {D : List Nat} {e x : Nat} (h : x ∈ D) : (D ++ [e]).idxOf x = D.idxOf x := by
  rw [List.idxOf_append, if_pos h]
theorem idxOf_snoc_not {D : List Nat} {e x : Nat} (h : x ∉ D) : (D ++ [e]).idxOf x = D.length + [e].idxOf x := by
  rw [List.idxOf_append, if_neg h]; omega

theorem Snd.absorb {es : List Nat} {s : Red} {e i : Nat} (h : Snd es s) (hok : RedOk es.length s) (ha : IsAbsorb s.rest s.rem e i) : Snd es ⟨s.rest.set e 0, s.rem.set e true, s.steps ++ [(e, (i : Int), -1)]⟩ := by
  obtain ⟨h1, h2, h3, _, _⟩ := ha
  obtain ⟨p1, p2, p3, p4⟩ := absorbs_parts h3
  rw [hok.lrest] at h1 h2
  have hel : e < s.rem.length := by rw [hok.lrem]; exact h1
  have hrem : ∀ x : Nat, (s.rem.set e true)[x]? = if x = e then some true else s.rem[x]? := fun x => by
    by_cases hx : e = x
    · subst hx; simp [hel]
    · rw [List.getElem?_set_ne hx, if_neg (fun h => hx h.symm)]
  have hsub : ∀ x v, bit (s.rest.set e 0) x v → bit s.rest x v := fun x v hb => by
    rcases bit_set hb with ⟨_, h0⟩ | ⟨_, h0⟩
    · simp at h0
    · exact h0
  refine ⟨fun t ht => ?_, fun x v hb => h.sub x v (hsub x v hb), fun x hx v hb => ?_, fun x v hi x' hb => ?_, fun x x' v hi hi' => ?_, fun x hx => ?_, fun x j hp => ?_, fun x j j' hp hp' => ?_, ?_, ⟨i, ?_⟩, ?_, fun x j hp => ?_, fun x hx => ?_⟩
  · simp only [List.mem_append, List.mem_singleton] at ht
    rcases ht with ht | rfl
    · exact h.shape t ht
    · simp only; omega
  · simp only [hrem] at hx
    split at hx
    · simp at hx
    · next hne =>
      rcases h.keep x hx v hb with h4 | h4
      · exact .inl ((bit_set_ne hne).2 h4)
      · exact .inr (isoS_absorb.2 h4)
  · exact h.isoR x v (isoS_absorb.1 hi) x' (hsub x' v hb)
  · exact h.iso1 x x' v (isoS_absorb.1 hi) (isoS_absorb.1 hi')
  · simp only [hrem] at hx
    split at hx
    · next hxe =>
      subst hxe
      refine ⟨i, parS_absorb.2 (.inr ⟨rfl, rfl⟩), fun v hb => ?_⟩
      rcases h.keep x p2 v hb with h4 | h4
      · exact .inl (h.sub i v (sub_of_dif (hok.u32.get x) (hok.u32.get i) p4 h4))
      · exact .inr (isoS_absorb.2 h4)
    · obtain ⟨j, hj, hv⟩ := h.parD x hx
      exact ⟨j, parS_absorb.2 (.inl hj), fun v hb => (hv v hb).imp id isoS_absorb.2⟩
  · simp only [hrem]
    rcases parS_absorb.1 hp with h4 | ⟨rfl, rfl⟩
    · split
      · rfl
      · exact h.parR x j h4
    · simp
  · rcases parS_absorb.1 hp with h4 | ⟨rfl, rfl⟩
    · rcases parS_absorb.1 hp' with h5 | ⟨rfl, rfl⟩
      · exact h.par1 x j j' h4 h5
      · have := h.parR x j h4; rw [p2] at this; simp at this
    · rcases parS_absorb.1 hp' with h5 | ⟨_, rfl⟩
      · have := h.parR x j' h5; rw [p2] at this; simp at this
      · rfl
  · obtain ⟨D, hD1, hD2, hD3⟩ := h.ord
    have heD : e ∉ D := fun hm => by have := (hD2 e).1 hm; rw [p2] at this; simp at this
    have hiD : i ∉ D := fun hm => by have := (hD2 i).1 hm; rw [p3] at this; simp at this
    refine ⟨D ++ [e], ?_, fun x => ?_, fun x j hp => ?_⟩
    · rw [List.nodup_append]
      exact ⟨hD1, by simp, fun a ha b hb => by simp at hb; subst hb; exact fun h => heD (h ▸ ha)⟩
    · simp only [hrem, List.mem_append, List.mem_singleton, hD2]
      split
      · next h => simp [h]
      · next h => simp [h]
    · rcases parS_absorb.1 hp with h4 | ⟨rfl, rfl⟩
      · have hxD : x ∈ D := (hD2 x).2 (h.parR x j h4)
        have hlt := hD3 x j h4
        rw [idxOf_snoc_mem hxD]
        by_cases hj : j ∈ D
        · rw [idxOf_snoc_mem hj]; exact hlt
        · rw [idxOf_snoc_not hj]
          have := List.idxOf_lt_length_of_mem hxD
          omega
      · have e1 : ([x] : List Nat).idxOf j = 1 := by
          have hb : (x == j) = false := by simpa using p1
          simp [List.idxOf_cons, hb]
        rw [idxOf_snoc_not heD, idxOf_snoc_not hiD, List.idxOf_cons_self, e1]
        omega
  · simp only [hrem]; rw [if_neg (fun h => p1 h.symm)]; exact p3
  · simp only [buildPar_snoc, putPar]
    split
    · rw [List.length_set]; exact h.plen
    · exact h.plen
  · simp only [buildPar_snoc, putPar]
    rw [if_pos (by simp)]
    rcases parS_absorb.1 hp with h4 | ⟨rfl, rfl⟩
    · have hne : e ≠ x := fun he => by subst he; have := h.parR e j h4; rw [p2] at this; simp at this
      rw [List.getElem?_set_ne hne]
      exact h.pAt x j h4
    · rw [List.getElem?_set_self (by rw [h.plen]; exact h1)]
  · simp only [hrem] at hx
    split at hx
    · simp at hx
    · next hne =>
      simp only [buildPar_snoc, putPar]
      rw [if_pos (by simp), List.getElem?_set_ne (fun h => hne h.symm)]
      exact h.pNo x hx

theorem vcnt_one {R : List Nat} {v : Nat} (h : vcnt R v R.length = 1) {x y : Nat} (hx : has (R[x]?.getD 0) v = true) (hy : has (R[y]?.getD 0) v = true) : x = y := by
  have hlt : ∀ z, has (R[z]?.getD 0) v = true → z < R.length := fun z hz => by
    refine Classical.byContradiction fun hn => ?_
    rw [List.getElem?_eq_none (Nat.le_of_not_lt hn)] at hz
    simp [has] at hz
  have h1 := (countP_le_one (fun i => has (R[i]?.getD 0) v) R.length).1 (by unfold vcnt nodesTo at h; omega)
  rcases Nat.lt_trichotomy x y with hxy | hxy | hxy
  · exact absurd ⟨hx, hy⟩ (h1 x y hxy (hlt y hy))
  · exact hxy
  · exact absurd ⟨hy, hx⟩ (h1 y x hxy (hlt x hx))

theorem Snd.isolate {es : List Nat} {s : Red} {n e v : Nat} (h : Snd es s) (hok : RedOk es.length s) (hn : n ≤ 32) (hv : v < n) (h1 : vcnt s.rest v s.rest.length = 1) (he : e = vlast s.rest v s.rest.length) :
    Snd es ⟨s.rest.set e (dif (s.rest[e]?.getD 0) (2 ^ v)), s.rem, s.steps ++ [(e, -1, (v : Int))]⟩ := by
  have hl := vlast_has (R := s.rest) (v := v) s.rest.length (by omega)
  rw [← he] at hl
  obtain ⟨hel, heh⟩ := hl
  have hb := hok.u32.get e
  have h2v : 2 ^ v < 4294967296 := by
    have : 2 ^ v < 2 ^ 32 := Nat.pow_lt_pow_right (by omega) (by omega)
    omega
  have hbits : ∀ u, (dif (s.rest[e]?.getD 0) (2 ^ v)).testBit u = ((s.rest[e]?.getD 0).testBit u && !(decide (v = u))) := fun u => by
    rw [testBit_dif _ _ _ hb h2v, Nat.testBit_two_pow]
  have hsub : ∀ x u, bit (s.rest.set e (dif (s.rest[e]?.getD 0) (2 ^ v))) x u → bit s.rest x u ∧ (x = e → u ≠ v) := fun x u hbx => by
    rcases bit_set hbx with ⟨rfl, h0⟩ | ⟨hne, h0⟩
    · rw [hbits] at h0
      simp only [Bool.and_eq_true, Bool.not_eq_true', decide_eq_false_iff_not] at h0
      exact ⟨h0.1, fun _ hu => h0.2 hu.symm⟩
    · exact ⟨h0, fun hxe => absurd hxe hne⟩
  have heb : bit s.rest e v := by unfold bit; rw [← has_eq]; exact heh
  have honly : ∀ x, bit s.rest x v → x = e := fun x hx => vcnt_one h1 (by rw [has_eq]; exact hx) heh
  refine ⟨fun t ht => ?_, fun x u hbx => h.sub x u (hsub x u hbx).1, fun x hx u hbx => ?_, fun x u hi x' hbx => ?_, fun x x' u hi hi' => ?_, fun x hx => ?_, fun x j hp => h.parR x j (parS_isolate.1 hp), fun x j j' hp hp' => h.par1 x j j' (parS_isolate.1 hp) (parS_isolate.1 hp'), ?_, h.alive, ?_, fun x j hp => ?_, fun x hx => ?_⟩
  · simp only [List.mem_append, List.mem_singleton] at ht
    rcases ht with ht | rfl
    · exact h.shape t ht
    · rw [hok.lrest] at hel; simp only; omega
  · rcases h.keep x hx u hbx with h4 | h4
    · by_cases hxe : x = e
      · subst hxe
        by_cases huv : u = v
        · exact .inr (isoS_isolate.2 (.inr ⟨rfl, huv⟩))
        · left
          unfold bit
          rw [List.getElem?_set_self hel]
          simp only [Option.getD_some]
          rw [hbits]
          have h4' : (s.rest[x]?.getD 0).testBit u = true := h4
          rw [h4']
          simp
          exact fun h => huv h.symm
      · exact .inl ((bit_set_ne hxe).2 h4)
    · exact .inr (isoS_isolate.2 (.inl h4))
  · have h5 := hsub x' u hbx
    rcases isoS_isolate.1 hi with h4 | ⟨rfl, rfl⟩
    · exact h.isoR x u h4 x' h5.1
    · exact h5.2 (honly x' h5.1) rfl
  · rcases isoS_isolate.1 hi with h4 | ⟨rfl, rfl⟩
    · rcases isoS_isolate.1 hi' with h5 | ⟨rfl, rfl⟩
      · exact h.iso1 x x' u h4 h5
      · exact absurd heb (h.isoR x u h4 x')
    · rcases isoS_isolate.1 hi' with h5 | ⟨rfl, _⟩
      · exact absurd heb (h.isoR x' u h5 x)
      · rfl
  · obtain ⟨j, hj, hvj⟩ := h.parD x hx
    exact ⟨j, parS_isolate.2 hj, fun u hbx => (hvj u hbx).imp id fun h => isoS_isolate.2 (.inl h)⟩
  · obtain ⟨D, hD1, hD2, hD3⟩ := h.ord
    exact ⟨D, hD1, hD2, fun x j hp => hD3 x j (parS_isolate.1 hp)⟩
  · simp only [buildPar_snoc, putPar]
    rw [if_neg (by omega)]; exact h.plen
  · simp only [buildPar_snoc, putPar]
    rw [if_neg (by omega)]; exact h.pAt x j (parS_isolate.1 hp)
  · simp only [buildPar_snoc, putPar]
    rw [if_neg (by omega)]; exact h.pNo x hx

theorem Snd.step {es : List Nat} {n : Nat} {s s' : Red} (h : Snd es s) (hok : RedOk es.length s) (hn : n ≤ 32) (hs : StepIs n s s') : Snd es s' := by
  cases hs with
  | absorb e i ha => exact h.absorb hok ha
  | isolate e v hno hv h1 hu he => exact h.isolate hok hn hv h1 he

theorem Snd.run {es : List Nat} {n : Nat} (hn : n ≤ 32) : ∀ f s, Snd es s → RedOk es.length s → Snd es (runF n f s)
  | 0, s, h, _ => h
  | f + 1, s, h, hok => by
    unfold runF
    cases hs : stepF n s with
    | none => exact h
    | some s' => exact Snd.run hn f s' (h.step hok hn (stepF_is hs)) ((stepF_is hs).ok hok hn).1

theorem countP_list (l : List Int) (p : Int → Bool) (d : Int) : l.countP p = (List.range l.length).countP fun i => p (l[i]?.getD d) := by
  have h : l = (List.range l.length).map fun i => l[i]?.getD d := by
    apply List.ext_getElem
    · simp
    · intro i h1 h2
      simp [h1]
  conv => lhs; rw [h]
  rw [List.countP_map]
  rfl

end Go.Proofs.YthgaflmldbgbnaaDoor.JT
end

section
/- Plain: where some tree is a join tree, the reduction removes everything. -/
namespace Go.Proofs.YthgaflmldbgbnaaDoor.JT

/-- A listing of sets: what each shares with the later ones lies in one of these. -/
def Rip (F : Nat → Nat → Prop) : List Nat → Prop
  | [] => True
  | h :: t => (t = [] ∨ ∃ y ∈ t, ∀ v, F h v → (∃ z ∈ t, F z v) → F y v) ∧ Rip F t

theorem Rip.swap {F : Nat → Nat → Prop} {e h : Nat} (hsub : ∀ v, F e v → F h v) : ∀ {t : List Nat}, t.Nodup → (∀ z ∈ t, ∀ v, F h v → F z v → F e v) → Rip F t → Rip F (t.map fun x => if x = e then h else x)
  | [], _, _, _ => trivial
  | a :: t, hnd, hs, hr => by
    obtain ⟨h1, h2⟩ := hr
    rw [List.nodup_cons] at hnd
    refine ⟨?_, Rip.swap hsub hnd.2 (fun z hz => hs z (by simp [hz])) h2⟩
    rcases h1 with h1 | ⟨y, hy, h1⟩
    · left; rw [h1]; rfl
    · right
      refine ⟨if y = e then h else y, List.mem_map.2 ⟨y, hy, rfl⟩, fun v hv hz => ?_⟩
      obtain ⟨z', hz', hzv⟩ := hz
      rw [List.mem_map] at hz'
      obtain ⟨z, hz, rfl⟩ := hz'
      have hv : F (if a = e then h else a) v := hv
      have key : F y v := by
        by_cases hae : a = e
        · rw [if_pos hae] at hv
          have hze : z ≠ e := fun h => hnd.1 (by rw [hae, ← h]; exact hz)
          rw [if_neg hze] at hzv
          have hev := hs z (by simp [hz]) v hv hzv
          exact h1 v (by rw [hae]; exact hev) ⟨z, hz, hzv⟩
        · rw [if_neg hae] at hv
          by_cases hze : z = e
          · rw [if_pos hze] at hzv
            have hev := hs a (by simp) v hzv hv
            exact h1 v hv ⟨z, hz, by rw [hze]; exact hev⟩
          · rw [if_neg hze] at hzv
            exact h1 v hv ⟨z, hz, hzv⟩
      by_cases hye : y = e
      · rw [if_pos hye]; rw [hye] at key; exact hsub v key
      · rw [if_neg hye]; exact key

/-- One set lies in another one of the list: without it the others can still be listed so. -/
theorem Rip.drop {F : Nat → Nat → Prop} : ∀ {l : List Nat} {e i : Nat}, l.Nodup → Rip F l → e ∈ l → i ∈ l → e ≠ i → (∀ v, F e v → F i v) →
    ∃ l', Rip F l' ∧ l'.Nodup ∧ ∀ x, x ∈ l' ↔ x ∈ l ∧ x ≠ e
  | [], _, _, _, _, he, _, _, _ => by simp at he
  | h :: t, e, i, hnd, hr, he, hi, hne, hsub => by
    obtain ⟨h1, h2⟩ := hr
    have hnd' := hnd
    rw [List.nodup_cons] at hnd
    by_cases hhe : h = e
    · subst hhe
      refine ⟨t, h2, hnd.2, fun x => ?_⟩
      constructor
      · intro hx; exact ⟨by simp [hx], fun e => hnd.1 (e ▸ hx)⟩
      · rintro ⟨hx, hxe⟩; simp at hx; rcases hx with hx | hx
        · exact absurd hx hxe
        · exact hx
    have het : e ∈ t := by simp at he; rcases he with he | he; exact absurd he.symm hhe; exact he
    rcases h1 with h1 | ⟨y, hy, h1⟩
    · rw [h1] at het; simp at het
    by_cases hhi : h = i
    · subst hhi
      have hev : ∀ v, F e v → F y v := fun v hv => h1 v (hsub v hv) ⟨e, het, hv⟩
      by_cases hye : y = e
      · subst hye
        have hs : ∀ z ∈ t, ∀ v, F h v → F z v → F y v := fun z hz v hv hzv => h1 v hv ⟨z, hz, hzv⟩
        refine ⟨t.map fun x => if x = y then h else x, Rip.swap hsub hnd.2 hs h2, ?_, fun x => ?_⟩
        · unfold List.Nodup
          rw [List.pairwise_map]
          refine List.Pairwise.imp_of_mem ?_ hnd.2
          intro a b ha hb hab hc
          by_cases hay : a = y
          · rw [if_pos hay] at hc
            by_cases hby : b = y
            · exact hab (hay.trans hby.symm)
            · rw [if_neg hby] at hc; exact hnd.1 (hc ▸ hb)
          · rw [if_neg hay] at hc
            by_cases hby : b = y
            · rw [if_pos hby] at hc; exact hnd.1 (hc ▸ ha)
            · rw [if_neg hby] at hc; exact hab hc
        · rw [List.mem_map]
          constructor
          · rintro ⟨a, ha, rfl⟩
            by_cases hay : a = y
            · rw [if_pos hay]; exact ⟨by simp, fun h => hne h.symm⟩
            · rw [if_neg hay]; exact ⟨by simp [ha], hay⟩
          · rintro ⟨hx, hxy⟩
            simp at hx
            rcases hx with rfl | hx
            · exact ⟨y, het, by simp⟩
            · exact ⟨x, hx, by simp [hxy]⟩
      · obtain ⟨l', hl1, hl2, hl3⟩ := Rip.drop hnd.2 h2 het hy (fun h => hye h.symm) hev
        refine ⟨h :: l', ⟨.inr ⟨y, (hl3 y).2 ⟨hy, hye⟩, fun v hv hz => ?_⟩, hl1⟩, List.nodup_cons.2 ⟨fun hm => hnd.1 ((hl3 h).1 hm).1, hl2⟩, fun x => ?_⟩
        · obtain ⟨z, hz, hzv⟩ := hz
          exact h1 v hv ⟨z, ((hl3 z).1 hz).1, hzv⟩
        · simp only [List.mem_cons, hl3]
          constructor
          · rintro (rfl | ⟨h4, h5⟩)
            · exact ⟨.inl rfl, hhe⟩
            · exact ⟨.inr h4, h5⟩
          · rintro ⟨h4 | h4, h5⟩
            · exact .inl h4
            · exact .inr ⟨h4, h5⟩
    · have hit : i ∈ t := by simp at hi; rcases hi with hi | hi; exact absurd hi.symm hhi; exact hi
      obtain ⟨l', hl1, hl2, hl3⟩ := Rip.drop hnd.2 h2 het hit hne hsub
      refine ⟨h :: l', ⟨.inr ?_, hl1⟩, List.nodup_cons.2 ⟨fun hm => hnd.1 ((hl3 h).1 hm).1, hl2⟩, fun x => ?_⟩
      · by_cases hye : y = e
        · refine ⟨i, (hl3 i).2 ⟨hit, fun h => hne h.symm⟩, fun v hv hz => ?_⟩
          obtain ⟨z, hz, hzv⟩ := hz
          have := h1 v hv ⟨z, ((hl3 z).1 hz).1, hzv⟩
          rw [hye] at this
          exact hsub v this
        · refine ⟨y, (hl3 y).2 ⟨hy, hye⟩, fun v hv hz => ?_⟩
          obtain ⟨z, hz, hzv⟩ := hz
          exact h1 v hv ⟨z, ((hl3 z).1 hz).1, hzv⟩
      · simp only [List.mem_cons, hl3]
        constructor
        · rintro (rfl | ⟨h4, h5⟩)
          · exact ⟨.inl rfl, hhe⟩
          · exact ⟨.inr h4, h5⟩
        · rintro ⟨h4 | h4, h5⟩
          · exact .inl h4
          · exact .inr ⟨h4, h5⟩

/-- A vertex that only one set of the list has may go. -/
theorem Rip.lose {F F' : Nat → Nat → Prop} {e v : Nat} (hF : ∀ x u, F' x u ↔ F x u ∧ ¬ (x = e ∧ u = v)) : ∀ {l : List Nat}, l.Nodup → (∀ z ∈ l, z ≠ e → ¬ F z v) → Rip F l → Rip F' l
  | [], _, _, _ => trivial
  | h :: t, hnd, honly, hr => by
    obtain ⟨h1, h2⟩ := hr
    rw [List.nodup_cons] at hnd
    refine ⟨?_, Rip.lose hF hnd.2 (fun z hz => honly z (by simp [hz])) h2⟩
    rcases h1 with h1 | ⟨y, hy, h1⟩
    · exact .inl h1
    · refine .inr ⟨y, hy, fun u hu hz => ?_⟩
      obtain ⟨z, hz, hzu⟩ := hz
      rw [hF] at hu hzu ⊢
      refine ⟨h1 u hu.1 ⟨z, hz, hzu.1⟩, ?_⟩
      rintro ⟨rfl, rfl⟩
      by_cases hhe : h = y
      · exact hnd.1 (hhe ▸ hy)
      · exact honly h (by simp) hhe hu.1

/-- The edges that are not removed can be listed so. -/
def Cmp (s : Red) : Prop := ∃ l : List Nat, l.Nodup ∧ (∀ x : Nat, x ∈ l ↔ s.rem[x]? = some false) ∧ Rip (bit s.rest) l

theorem Cmp.step {m n : Nat} {s s' : Red} (h : Cmp s) (hok : RedOk m s) (hn : n ≤ 32) (hs : StepIs n s s') : Cmp s' := by
  obtain ⟨l, hl1, hl2, hl3⟩ := h
  cases hs with
  | absorb e i ha =>
    obtain ⟨h1, h2, h3, _, _⟩ := ha
    obtain ⟨p1, p2, p3, p4⟩ := absorbs_parts h3
    obtain ⟨l', q1, q2, q3⟩ := Rip.drop hl1 hl3 ((hl2 e).2 p2) ((hl2 i).2 p3) p1 (fun v hv => sub_of_dif (hok.u32.get e) (hok.u32.get i) p4 hv)
    have hel : e < s.rem.length := (List.getElem?_eq_some_iff.1 p2).1
    refine ⟨l', q2, fun x => ?_, ?_⟩
    · rw [q3, hl2]
      simp only
      by_cases hx : e = x
      · subst hx; simp [hel]
      · rw [List.getElem?_set_ne hx]
        exact ⟨fun h => h.1, fun h => ⟨h, fun e => hx e.symm⟩⟩
    · have hcongr : ∀ (l : List Nat), (∀ x ∈ l, x ≠ e) → Rip (bit s.rest) l → Rip (bit (s.rest.set e 0)) l := by
        intro l
        induction l with
        | nil => intro _ _; trivial
        | cons a t ih =>
          rintro hne ⟨r1, r2⟩
          refine ⟨?_, ih (fun x hx => hne x (by simp [hx])) r2⟩
          rcases r1 with r1 | ⟨y, hy, r1⟩
          · exact .inl r1
          · refine .inr ⟨y, hy, fun v hv hz => ?_⟩
            obtain ⟨z, hz, hzv⟩ := hz
            rw [bit_set_ne (hne a (by simp))] at hv
            rw [bit_set_ne (hne z (by simp [hz]))] at hzv
            rw [bit_set_ne (hne y (by simp [hy]))]
            exact r1 v hv ⟨z, hz, hzv⟩
      exact hcongr l' (fun x hx => ((q3 x).1 hx).2) q1
  | isolate e v hno hv h1 hu he =>
    have hlh := vlast_has (R := s.rest) (v := v) s.rest.length (by omega)
    rw [← he] at hlh
    obtain ⟨hel, heh⟩ := hlh
    have hb := hok.u32.get e
    have h2v : 2 ^ v < 4294967296 := by
      have : 2 ^ v < 2 ^ 32 := Nat.pow_lt_pow_right (by omega) (by omega)
      omega
    refine ⟨l, hl1, hl2, Rip.lose (e := e) (v := v) (fun x u => ?_) hl1 (fun z _ hz hzv => ?_) hl3⟩
    · by_cases hx : x = e
      · subst hx
        unfold bit
        rw [List.getElem?_set_self hel]
        simp only [Option.getD_some]
        rw [testBit_dif _ _ _ hb h2v, Nat.testBit_two_pow]
        simp only [Bool.and_eq_true, Bool.not_eq_true', decide_eq_false_iff_not, true_and]
        constructor
        · rintro ⟨a, b⟩; exact ⟨a, fun c => b c.symm⟩
        · rintro ⟨a, b⟩; exact ⟨a, fun c => b c.symm⟩
      · rw [bit_set_ne hx]
        simp [hx]
    · exact hz (vcnt_one h1 (by rw [has_eq]; exact hzv) heh)

theorem Cmp.run {m n : Nat} (hn : n ≤ 32) : ∀ f s, Cmp s → RedOk m s → Cmp (runF n f s)
  | 0, s, h, _ => h
  | f + 1, s, h, hok => by
    unfold runF
    cases hs : stepF n s with
    | none => exact h
    | some s' => exact Cmp.run hn f s' (h.step hok hn (stepF_is hs)) ((stepF_is hs).ok hok hn).1

/-- A state without a step, so listed, has nothing left. -/
theorem Cmp.zero {m n : Nat} {s : Red} (h : Cmp s) (hok : RedOk m s) (hN : ∀ e, ∀ v, bit s.rest e v → v < n) (hend : stepF n s = none) : s.rest.all (fun z => z == 0) = true := by
  have hno : NoAbsorb s.rest s.rem := by
    intro e he i hi
    cases ha : absorbF s.rest s.rem with
    | none =>
      unfold absorbF at ha
      rw [List.findSome?_eq_none_iff] at ha
      have h3 := ha e (List.mem_range.2 he)
      rw [Option.map_eq_none_iff, List.find?_eq_none] at h3
      simpa using h3 i (List.mem_range.2 hi)
    | some p => unfold stepF at hend; rw [ha] at hend; simp at hend
  have hiso : ∀ v, v < n → vcnt s.rest v s.rest.length ≠ 1 := by
    intro v hv h1
    unfold stepF at hend
    rw [absorbF_none hno] at hend
    cases hi : isolateF n s.rest with
    | none =>
      unfold isolateF at hi
      rw [Option.map_eq_none_iff, List.find?_eq_none] at hi
      have := hi v (List.mem_range.2 hv)
      simp [h1] at this
    | some p => rw [hi] at hend; simp at hend
  have hother : ∀ e v, bit s.rest e v → ∃ e', e' ≠ e ∧ bit s.rest e' v := by
    intro e v hv
    refine Classical.byContradiction fun hn => ?_
    apply hiso v (hN e v hv)
    have hel : e < s.rest.length := by
      refine Classical.byContradiction fun hlt => ?_
      unfold bit at hv
      rw [List.getElem?_eq_none (Nat.le_of_not_lt hlt)] at hv
      simp at hv
    have hpos : 0 < vcnt s.rest v s.rest.length := by
      unfold vcnt nodesTo
      rw [List.countP_pos_iff]
      exact ⟨e, List.mem_range.2 hel, by rw [has_eq]; exact hv⟩
    have hle : vcnt s.rest v s.rest.length ≤ 1 := by
      unfold vcnt nodesTo
      refine (countP_le_one _ _).2 fun i j hij hj ⟨h1, h2⟩ => ?_
      rw [has_eq] at h1 h2
      have a1 : i = e := Classical.byContradiction fun h => hn ⟨i, h, h1⟩
      have a2 : j = e := Classical.byContradiction fun h => hn ⟨j, h, h2⟩
      omega
    omega
  obtain ⟨l, hl1, hl2, hl3⟩ := h
  have hact : ∀ e v, bit s.rest e v → e ∈ l := by
    intro e v hv
    rw [hl2]
    have hel : e < s.rest.length := by
      refine Classical.byContradiction fun hlt => ?_
      unfold bit at hv
      rw [List.getElem?_eq_none (Nat.le_of_not_lt hlt)] at hv
      simp at hv
    have hem : e < s.rem.length := by rw [hok.lrem, ← hok.lrest]; exact hel
    rw [List.getElem?_eq_getElem hem]
    cases hb : s.rem[e] with
    | false => rfl
    | true =>
      have := hok.zero e (by rw [List.getElem?_eq_getElem hem, hb])
      unfold bit at hv
      rw [this] at hv
      simp at hv
  have hnone : ∀ e v, ¬ bit s.rest e v := by
    cases l with
    | nil => intro e v hv; have := hact e v hv; simp at this
    | cons h t =>
      obtain ⟨r1, _⟩ := hl3
      rcases r1 with r1 | ⟨y, hy, r1⟩
      · subst r1
        intro e v hv
        obtain ⟨e', hne, hv'⟩ := hother e v hv
        have b1 := hact e v hv
        have b2 := hact e' v hv'
        simp at b1 b2
        exact hne (b2.trans b1.symm)
      · exfalso
        rw [List.nodup_cons] at hl1
        have hhy : h ≠ y := fun e => hl1.1 (e ▸ hy)
        have hsub : ∀ v, bit s.rest h v → bit s.rest y v := by
          intro v hv
          obtain ⟨e', hne, hv'⟩ := hother h v hv
          have b2 := hact e' v hv'
          simp at b2
          rcases b2 with b2 | b2
          · exact absurd b2 hne
          · exact r1 v hv ⟨e', b2, hv'⟩
        have hh := (hl2 h).1 (by simp)
        have hyy := (hl2 y).1 (by simp [hy])
        have hhl : h < s.rest.length := by have := (List.getElem?_eq_some_iff.1 hh).1; rw [hok.lrem] at this; rw [hok.lrest]; exact this
        have hyl : y < s.rest.length := by have := (List.getElem?_eq_some_iff.1 hyy).1; rw [hok.lrem] at this; rw [hok.lrest]; exact this
        have hd : dif (s.rest[h]?.getD 0) (s.rest[y]?.getD 0) = 0 := by
          apply Nat.eq_of_testBit_eq
          intro v
          rw [testBit_dif _ _ _ (hok.u32.get h) (hok.u32.get y), Nat.zero_testBit]
          cases hb : (s.rest[h]?.getD 0).testBit v with
          | false => rfl
          | true => have := hsub v hb; unfold bit at this; rw [this]; rfl
        have h2 : absorbs s.rest s.rem h y = true := by
          unfold absorbs
          rw [hh, hyy, hd]
          simp [hhy]
        rw [hno h hhl y hyl] at h2
        cases h2
  rw [List.all_eq_true]
  intro z hz
  rw [beq_iff_eq]
  obtain ⟨e, he, rfl⟩ := List.getElem_of_mem hz
  apply Nat.eq_of_testBit_eq
  intro v
  rw [Nat.zero_testBit]
  cases hb : s.rest[e].testBit v with
  | false => rfl
  | true => exact absurd (show bit s.rest e v by unfold bit; simp [he, hb]) (hnone e v)

/-! ### A join tree gives such a listing: the order of its nodes -/
theorem up_pos_order {ps : List Int} {D : List Nat} (h : Greedy ps D) (hv : ∀ p ∈ ps, -1 ≤ p ∧ p < ps.length) (hall : ∀ u, u < ps.length → u ∈ D) {k z t : Nat} (hz : z < ps.length) (ht : up ps k (z : Int) = (t : Int)) : D.idxOf z ≤ D.idxOf t := by
  obtain ⟨i, hi, hiz⟩ := List.getElem_of_mem (hall z hz)
  have hii : D.idxOf z = i := by rw [← hiz]; exact h.nodup.idxOf_getElem i hi
  rcases whole_up h hv hall k i z (by rw [List.getElem?_eq_getElem hi, hiz]) with h1 | ⟨j, x, h1, h2, h3⟩
  · omega
  · have hx : x = t := by omega
    subst hx
    obtain ⟨hj, hjx⟩ := List.getElem?_eq_some_iff.1 h1
    have : D.idxOf x = j := by rw [← hjx]; exact h.nodup.idxOf_getElem j hj
    omega

end Go.Proofs.YthgaflmldbgbnaaDoor.JT
end

section
/- Plain: the order of a join tree, children first, with the running intersection by parents. -/
namespace Go.Proofs.YthgaflmldbgbnaaDoor.JT

/-- A listing of nodes, children first: each but the last has its parent behind it, and what it shares with those behind it lies in its parent. -/
def PRip (ps : List Int) (F : Nat → Nat → Prop) : List Nat → Prop
  | [] => True
  | h :: t => ((t = [] ∧ par ps h < 0) ∨ ∃ p : Nat, p ∈ t ∧ par ps h = (p : Int) ∧ ∀ v, F h v → (∃ z ∈ t, F z v) → F p v) ∧ PRip ps F t

theorem order_rip {es : List Nat} {ps : List Int} {N : Int} (hk : chkF N es ps = 0) : ps.length = es.length ∧ 0 < es.length ∧ (orderF ps).Nodup ∧ (∀ u, u ∈ orderF ps ↔ u < ps.length) ∧ PRip ps (bit es) (orderF ps) := by
  have hg : hgCheckF N es = 0 := by
    refine Classical.byContradiction fun h => ?_
    rw [chkF_hg h] at hk; exact h hk
  have hl : ps.length = es.length := by
    refine Classical.byContradiction fun h => ?_
    rw [chkF_len hg h] at hk; omega
  have hr : rootedB ps = true := by
    cases h : rootedB ps with
    | true => rfl
    | false => rw [chkF_root hg hl h] at hk; omega
  have ht : TopsOk es ps := by
    refine Classical.byContradiction fun h => ?_
    rw [chkF_tops hg hl hr h] at hk; omega
  obtain ⟨n, rfl, hn, _, hN⟩ := hgCheckF_zero hg
  have hu : U32 es := fun e he => by
    have := hN e he
    have : 2 ^ n ≤ 2 ^ 32 := Nat.pow_le_pow_right (by omega) hn
    omega
  obtain ⟨hv, hroots, hup⟩ := rooted_parts hr
  have hpos := rooted_pos hr
  have hO := orderF_is ps
  have hwh := (order_whole hv).2 hup
  generalize orderF ps = D at *
  have hall : ∀ u, u < ps.length → u ∈ D := by
    intro u hu
    refine Classical.byContradiction fun hn => ?_
    have h1 : (u :: D).Nodup := List.nodup_cons.2 ⟨hn, hO.1.nodup⟩
    have h2 := nodup_le (m := List.range ps.length) h1 fun x hx => by
      simp at hx; rcases hx with rfl | hx
      · exact List.mem_range.2 hu
      · exact List.mem_range.2 (hO.1.lt hx)
    simp at h2; omega
  rw [topsOk_iff] at ht
  have hlink : ∀ h p v : Nat, h < es.length → ps[h]?.getD 0 = (p : Int) → bit es h v → ¬ bit es p v → (topF es ps h).testBit v = true := by
    intro h p v hh hp hb hnb
    rw [topF_bit hu hl hv hh, hp]
    unfold bit at hb hnb
    simp only [Int.toNat_natCast]
    rw [has_eq, has_eq, hb]
    cases hc : (es[p]?.getD 0).testBit v with
    | true => exact absurd hc hnb
    | false => simp
  -- climbing from a node that holds v one comes to a top of v
  have hclimb : ∀ v k (z : Nat), z < es.length → bit es z v → (∃ t k' : Nat, t < es.length ∧ up ps k' (z : Int) = (t : Int) ∧ (topF es ps t).testBit v = true) ∨ (∃ t : Nat, t < es.length ∧ up ps k (z : Int) = (t : Int) ∧ bit es t v) := by
    intro v k
    induction k with
    | zero => intro z hz hb; exact .inr ⟨z, hz, rfl, hb⟩
    | succ k ih =>
      intro z hz hb
      cases htop : (topF es ps z).testBit v with
      | true => exact .inl ⟨z, 0, hz, rfl, htop⟩
      | false =>
        have htop' := htop
        rw [topF_bit hu hl hv hz, has_eq, has_eq] at htop'
        unfold bit at hb
        rw [hb] at htop'
        simp at htop'
        obtain ⟨hp0, hpb⟩ := htop'
        have hzl : z < ps.length := by omega
        have hpz : ps[z]?.getD 0 = ps[z] := by simp [hzl]
        rw [hpz] at hp0 hpb
        have hvz := hv ps[z] (List.getElem_mem hzl)
        obtain ⟨q, hq⟩ := Int.eq_ofNat_of_zero_le hp0
        rw [hq] at hpb
        simp at hpb
        have hup1 : ∀ j, up ps (j + 1) (z : Int) = up ps j (q : Int) := fun j => by
          rw [up_succ hzl, show par ps z = ps[z] by simp [par, hzl], hq]
        rcases ih q (by omega) hpb with ⟨t, k', h1, h2, h3⟩ | ⟨t, h1, h2, h3⟩
        · exact .inl ⟨t, k' + 1, h1, by rw [hup1]; exact h2, h3⟩
        · exact .inr ⟨t, h1, by rw [hup1]; exact h2, h3⟩
  have htopOf : ∀ v (z : Nat), z < es.length → bit es z v → ∃ t k' : Nat, t < es.length ∧ up ps k' (z : Int) = (t : Int) ∧ (topF es ps t).testBit v = true := by
    intro v z hz hb
    rcases hclimb v ps.length z hz hb with h | ⟨t, _, h2, _⟩
    · exact h
    · have := hup z (by omega); omega
  refine ⟨hl, by omega, hO.1.nodup, fun u => ⟨fun h => hO.1.lt h, hall u⟩, ?_⟩
  · have hsuf : ∀ (l : List Nat) (pre : List Nat), pre ++ l = D → PRip ps (bit es) l := by
      intro l
      induction l with
      | nil => intro _ _; trivial
      | cons h t ih =>
        intro pre hpre
        refine ⟨?_, ih (pre ++ [h]) (by rw [← hpre]; simp)⟩
        have hhD : h ∈ D := by rw [← hpre]; simp
        have hhl : h < ps.length := hO.1.lt hhD
        have hnd := hO.1.nodup
        have hafter : ∀ z ∈ t, D.idxOf h < D.idxOf z := by
          intro z hz
          have hnd2 := hnd
          rw [← hpre, List.nodup_append] at hnd2
          obtain ⟨_, n2, n3⟩ := hnd2
          rw [List.nodup_cons] at n2
          have hhp : h ∉ pre := fun hm => n3 h hm h (by simp) rfl
          have hzp : z ∉ pre := fun hm => n3 z hm z (by simp [hz]) rfl
          have hzh : z ≠ h := fun e => n2.1 (e ▸ hz)
          rw [← hpre, List.idxOf_append, if_neg hhp, List.idxOf_append, if_neg hzp, List.idxOf_cons_self]
          have hb : (h == z) = false := by simpa using fun e => hzh e.symm
          simp [List.idxOf_cons, hb]
        have hph : ps[h]?.getD 0 = ps[h] := by simp [hhl]
        have hvh := hv ps[h] (List.getElem_mem hhl)
        -- h is no root: the root comes last
        have hnr : ps[h] < 0 → t = [] := by
          intro hneg
          refine Classical.byContradiction fun hne => ?_
          obtain ⟨t0, ht0⟩ := List.exists_mem_of_ne_nil t hne
          have ht0D : t0 ∈ D := by rw [← hpre]; simp [ht0]
          have ht0l := hO.1.lt ht0D
          -- climbing from t0 one comes to a root; there is only one
          have hroot : ∃ k r : Nat, r < ps.length ∧ up ps k (t0 : Int) = (r : Int) ∧ par ps r < 0 := by
            have hgen : ∀ k (z : Nat), z < ps.length → up ps k (z : Int) < 0 → ∃ k' r : Nat, r < ps.length ∧ up ps k' (z : Int) = (r : Int) ∧ par ps r < 0 := by
              intro k
              induction k with
              | zero => intro z _ h; simp [up] at h; omega
              | succ k ihk =>
                intro z hz h
                by_cases hp : par ps z < 0
                · exact ⟨0, z, hz, rfl, hp⟩
                · rw [up_succ hz] at h
                  obtain ⟨q, hq⟩ := Int.eq_ofNat_of_zero_le (show 0 ≤ par ps z by omega)
                  have hvz := hv ps[z] (List.getElem_mem hz)
                  have hpz : par ps z = ps[z] := by simp [par, hz]
                  rw [hq] at h
                  obtain ⟨k', r, a, b, c⟩ := ihk q (by omega) h
                  exact ⟨k' + 1, r, a, by rw [up_succ hz, hq]; exact b, c⟩
            exact hgen ps.length t0 ht0l (hup t0 ht0l)
          obtain ⟨k, r, hrl, hkr, hrneg⟩ := hroot
          have hrh : r = h := by
            have hle := (countP_le_one (fun i => decide (ps[i]?.getD 0 < 0)) ps.length).1 (by
              have := hroots
              unfold rootsF at this
              rw [countP_list ps _ 0] at this
              omega)
            have hr1 : ps[r]?.getD 0 < 0 := by simp [par, hrl] at hrneg; simp [hrl]; exact hrneg
            have hh1 : ps[h]?.getD 0 < 0 := by rw [hph]; exact hneg
            rcases Nat.lt_trichotomy r h with hlt | heq | hgt
            · exact absurd ⟨by simpa using hr1, by simpa using hh1⟩ (hle r h hlt hhl)
            · exact heq
            · exact absurd ⟨by simpa using hh1, by simpa using hr1⟩ (hle h r hgt hrl)
          have h1 := up_pos_order hO.1 hv hall ht0l hkr
          have h2 := hafter t0 ht0
          rw [hrh] at h1
          omega
        by_cases hneg : ps[h] < 0
        · exact .inl ⟨hnr hneg, by simp [par, hhl]; exact hneg⟩
        right
        obtain ⟨p, hp⟩ := Int.eq_ofNat_of_zero_le (show 0 ≤ ps[h] by omega)
        have hpl : p < ps.length := by omega
        have hpt : p ∈ t := by
          have hpD := hall p hpl
          have hlt : D.idxOf h < D.idxOf p := by
            have hnd2 := hO.1.nodup
            obtain ⟨i, hi, hih⟩ := List.getElem_of_mem hhD
            obtain ⟨j, hj, hjp⟩ := List.getElem_of_mem hpD
            have e1 : D.idxOf h = i := by rw [← hih]; exact hnd2.idxOf_getElem i hi
            have e2 : D.idxOf p = j := by rw [← hjp]; exact hnd2.idxOf_getElem j hj
            have hin := hO.1.after hhl (show par ps h = (p : Int) by simp [par, hhl, hp]) (show D[j]? = some p by rw [List.getElem?_eq_getElem hj, hjp])
            rw [List.mem_take_iff_getElem] at hin
            obtain ⟨i', hi', he⟩ := hin
            have : D.idxOf h = i' := by rw [← he]; exact hnd2.idxOf_getElem i' (by omega)
            omega
          rw [← hpre] at hpD
          simp only [List.mem_append, List.mem_cons] at hpD
          rcases hpD with h1 | h1 | h1
          · exfalso
            have hnd2 := hnd
            rw [← hpre, List.nodup_append] at hnd2
            have hhp : h ∉ pre := fun hm => hnd2.2.2 h hm h (by simp) rfl
            rw [← hpre, List.idxOf_append, if_neg hhp, List.idxOf_append, if_pos h1] at hlt
            have := List.idxOf_lt_length_of_mem h1
            omega
          · rw [h1] at hlt; omega
          · exact h1
        refine ⟨p, hpt, by simp [par, hhl]; exact hp, fun v hhv hz => ?_⟩
        obtain ⟨z, hz, hzv⟩ := hz
        refine Classical.byContradiction fun hnp => ?_
        have htoph := hlink h p v (by omega) (by rw [hph]; exact hp) hhv hnp
        have hzD : z ∈ D := by rw [← hpre]; simp [hz]
        have hzl := hO.1.lt hzD
        obtain ⟨t', k', h1, h2, h3⟩ := htopOf v z (by omega) hzv
        have hth : t' = h := by
          rcases Nat.lt_trichotomy t' h with hlt | heq | hgt
          · exact absurd ⟨h3, htoph⟩ (ht v t' h hlt (by omega))
          · exact heq
          · exact absurd ⟨htoph, h3⟩ (ht v h t' hgt (by omega))
        have h4 := up_pos_order hO.1 hv hall hzl h2
        have h5 := hafter z hz
        rw [hth] at h4
        omega
    exact hsuf D [] rfl

end Go.Proofs.YthgaflmldbgbnaaDoor.JT
end

section
/- Plain: Yannakakis' algorithm along a join tree. -/
namespace Go.Proofs.YthgaflmldbgbnaaDoor
open Go.RowKit Go.Sort

/-- An assignment satisfies an atom. -/
def satF (a : At) (f : Nat → RL.V) : Prop := rowF a.vs f ∈ a.P
theorem satF_congr {a : At} {f g : Nat → RL.V} (h : ∀ v ∈ a.vs, f v = g v) : satF a f ↔ satF a g := by unfold satF; rw [row_eq.2 h]
def satD (X : Nat → At) (D : Nat → Prop) (f : Nat → RL.V) : Prop := ∀ i, D i → satF (X i) f
/-- A variable of some atom of D. -/
def inD (X : Nat → At) (D : Nat → Prop) (v : Nat) : Prop := ∃ i, D i ∧ v ∈ (X i).vs
theorem glue {X : Nat → At} {D E : Nat → Prop} {f g : Nat → RL.V} (hf : satD X D f) (hg : satD X E g) (hag : ∀ v, inD X D v → inD X E v → f v = g v) :
    ∃ h, satD X (fun i => D i ∨ E i) h ∧ (∀ v, inD X D v → h v = f v) ∧ ∀ v, inD X E v → h v = g v := by
  classical
  have h1 : ∀ v, inD X D v → (if inD X E v then g v else f v) = f v := fun v hv => by
    by_cases h : inD X E v
    · rw [if_pos h, hag v hv h]
    · rw [if_neg h]
  have h2 : ∀ v, inD X E v → (if inD X E v then g v else f v) = g v := fun v hv => if_pos hv
  refine ⟨fun v => if inD X E v then g v else f v, fun i hi => ?_, h1, h2⟩
  rcases hi with hi | hi
  · exact (satF_congr fun v hv => h1 v ⟨i, hi, hv⟩).2 (hf i hi)
  · exact (satF_congr fun v hv => h2 v ⟨i, hi, hv⟩).2 (hg i hi)
/-- The row x over the variables T comes of an assignment that satisfies D. -/
def PrF (X : Nat → At) (T : List Nat) (D : Nat → Prop) (x : RL.R) : Prop := ∃ f, satD X D f ∧ rowF T f = x
theorem PrF.mono {X : Nat → At} {T : List Nat} {D E : Nat → Prop} (h : ∀ i, E i → D i) {x : RL.R} (hx : PrF X T D x) : PrF X T E x := by
  obtain ⟨f, h1, h2⟩ := hx
  exact ⟨f, fun i hi => h1 i (h i hi), h2⟩

section
variable {X : Nat → At} {D E : Nat → Prop} {T1 T2 : List Nat} {A B : List RL.R}
theorem semi_pr (hA1 : ∀ x ∈ A, PrF X T1 D x) (hB1 : ∀ x ∈ B, PrF X T2 E x) (hA2 : ∀ x, PrF X T1 (fun i => D i ∨ E i) x → x ∈ A) (hB2 : ∀ x, PrF X T2 (fun i => D i ∨ E i) x → x ∈ B)
    (n1 : T1.Nodup) (n2 : T2.Nodup) (s1 : ∀ v ∈ T1, inD X D v) (sep : ∀ v, inD X D v → inD X E v → v ∈ T1 ∧ v ∈ T2) (x : RL.R) : x ∈ semiF ⟨T1, A⟩ ⟨T2, B⟩ ↔ PrF X T1 (fun i => D i ∨ E i) x := by
  rw [mem_semiF]
  constructor
  · rintro ⟨hx, y, hy, hag⟩
    obtain ⟨f, hf, rfl⟩ := hA1 x hx
    obtain ⟨g, hg, rfl⟩ := hB1 y hy
    obtain ⟨h, h1, h2, h3⟩ := glue hf hg fun v hv hv' => by
      obtain ⟨q1, q2⟩ := sep v hv hv'
      have := hag v q1 q2
      rw [getF_row n1 f q1, getF_row n2 g q2] at this
      exact this
    exact ⟨h, h1, row_eq.2 fun v hv => h2 v (s1 v hv)⟩
  · intro hx
    obtain ⟨f, hf, rfl⟩ := id hx
    refine ⟨hA2 _ hx, rowF T2 f, hB2 _ ⟨f, hf, rfl⟩, fun v hv hv' => ?_⟩
    rw [getF_row n1 f hv, getF_row n2 f hv']
theorem join_pr {U : List Nat} (hU : ∀ v, v ∈ U ↔ v ∈ T1 ∨ v ∈ T2) (hA1 : ∀ x ∈ A, PrF X T1 D x) (hB1 : ∀ x ∈ B, PrF X T2 E x) (hA2 : ∀ x, PrF X T1 (fun i => D i ∨ E i) x → x ∈ A) (hB2 : ∀ x, PrF X T2 (fun i => D i ∨ E i) x → x ∈ B)
    (n1 : T1.Nodup) (n2 : T2.Nodup) (s1 : ∀ v ∈ T1, inD X D v) (s2 : ∀ v ∈ T2, inD X E v) (sep : ∀ v, inD X D v → inD X E v → v ∈ T1 ∧ v ∈ T2) (z : RL.R) :
    (∃ x ∈ A, ∃ y ∈ B, agrF T1 T2 x y ∧ z = mergeF U T1 T2 x y) ↔ PrF X U (fun i => D i ∨ E i) z := by
  constructor
  · rintro ⟨x, hx, y, hy, hag, rfl⟩
    obtain ⟨f, hf, rfl⟩ := hA1 x hx
    obtain ⟨g, hg, rfl⟩ := hB1 y hy
    obtain ⟨h, h1, h2, h3⟩ := glue hf hg fun v hv hv' => by
      obtain ⟨q1, q2⟩ := sep v hv hv'
      have := hag v q1 q2
      rw [getF_row n1 f q1, getF_row n2 g q2] at this
      exact this
    refine ⟨h, h1, ?_⟩
    unfold mergeF
    refine row_eq.2 fun v hv => ?_
    by_cases hm : v ∈ T1
    · rw [if_pos hm, getF_row n1 f hm]; exact h2 v (s1 v hm)
    · have hm2 := ((hU v).1 hv).resolve_left hm
      rw [if_neg hm, getF_row n2 g hm2]; exact h3 v (s2 v hm2)
  · rintro ⟨f, hf, rfl⟩
    refine ⟨rowF T1 f, hA2 _ ⟨f, hf, rfl⟩, rowF T2 f, hB2 _ ⟨f, hf, rfl⟩, fun v hv hv' => ?_, ?_⟩
    · rw [getF_row n1 f hv, getF_row n2 f hv']
    · unfold mergeF
      refine row_eq.2 fun v hv => ?_
      by_cases hm : v ∈ T1
      · rw [if_pos hm, getF_row n1 f hm]
      · have hm2 := ((hU v).1 hv).resolve_left hm
        rw [if_neg hm, getF_row n2 f hm2]
end

/-- The nodes that have been merged into node n. -/
def clF (m : Nat) (own : Nat → Nat) (n : Nat) (i : Nat) : Prop := i < m ∧ own i = n
/-- The nodes l are left; each other one has been merged into one of them. -/
structure Own (X : Nat → At) (m : Nat) (l : List Nat) (own : Nat → Nat) : Prop where
  lt : ∀ i, i < m → own i ∈ l
  self : ∀ n ∈ l, n < m ∧ own n = n
  sep : ∀ n ∈ l, ∀ n' ∈ l, n ≠ n' → ∀ v, inD X (clF m own n) v → inD X (clF m own n') v → v ∈ (X n).vs ∧ v ∈ (X n').vs
/-- What D shares with the others is shared by c and p. -/
def Cut (X : Nat → At) (m c p : Nat) (D : Nat → Prop) : Prop := (∀ i, D i → i < m) ∧ D c ∧ ¬ D p ∧ ∀ v, inD X D v → inD X (fun i => i < m ∧ ¬ D i) v → v ∈ (X c).vs ∧ v ∈ (X p).vs
section
variable {X : Nat → At} {m c p : Nat} {t : List Nat} {own : Nat → Nat}
theorem Own.start {l : List Nat} (h : ∀ i, i ∈ l ↔ i < m) : Own X m l id where
  lt := fun i hi => (h i).2 hi
  self := fun n hn => ⟨(h n).1 hn, rfl⟩
  sep := fun n _ n' _ _ v h1 h2 => by
    obtain ⟨i, ⟨_, e⟩, hv⟩ := h1
    obtain ⟨j, ⟨_, e'⟩, hv'⟩ := h2
    have e : i = n := e
    have e' : j = n' := e'
    subst e e'
    exact ⟨hv, hv'⟩
theorem Own.cut (h : Own X m (c :: t) own) (hp : p ∈ t) (hc : c ∉ t) (hr : ∀ v ∈ (X c).vs, (∃ z ∈ t, v ∈ (X z).vs) → v ∈ (X p).vs) : Cut X m c p (clF m own c) := by
  refine ⟨fun i hi => hi.1, h.self c (by simp), fun hd => ?_, fun v h1 h2 => ?_⟩
  · have := (h.self p (by simp [hp])).2
    rw [hd.2] at this
    exact hc (this ▸ hp)
  · obtain ⟨j, ⟨hj, hn⟩, hv⟩ := h2
    have hne : own j ≠ c := fun e => hn ⟨hj, e⟩
    have hm : own j ∈ t := by
      rcases List.mem_cons.1 (h.lt j hj) with e | e
      · exact absurd e hne
      · exact e
    obtain ⟨q1, q2⟩ := h.sep c (by simp) (own j) (by simp [hm]) hne.symm v h1 ⟨j, ⟨hj, rfl⟩, hv⟩
    exact ⟨q1, hr v q1 ⟨_, hm, q2⟩⟩
theorem clF_step (_hpc : p ≠ c) (n i : Nat) (hn : n ≠ c) : clF m (fun i => if own i = c then p else own i) n i ↔ clF m own n i ∨ (n = p ∧ clF m own c i) := by
  unfold clF
  by_cases h : own i = c
  · simp only [if_pos h]
    constructor
    · rintro ⟨h1, h2⟩; exact .inr ⟨h2.symm, h1, h⟩
    · rintro (⟨h1, h2⟩ | ⟨h1, h2, _⟩)
      · exact absurd (h2.symm.trans h) hn
      · exact ⟨h2, h1.symm⟩
  · simp only [if_neg h]
    constructor
    · exact .inl
    · rintro (h1 | ⟨_, _, h2⟩)
      · exact h1
      · exact absurd h2 h
theorem inD_or {D E F : Nat → Prop} (h : ∀ i, D i ↔ E i ∨ F i) (v : Nat) : inD X D v ↔ inD X E v ∨ inD X F v := by
  constructor
  · rintro ⟨i, hi, hv⟩
    rcases (h i).1 hi with h | h
    · exact .inl ⟨i, h, hv⟩
    · exact .inr ⟨i, h, hv⟩
  · rintro (⟨i, hi, hv⟩ | ⟨i, hi, hv⟩)
    · exact ⟨i, (h i).2 (.inl hi), hv⟩
    · exact ⟨i, (h i).2 (.inr hi), hv⟩
theorem Own.step (h : Own X m (c :: t) own) (hp : p ∈ t) (hc : c ∉ t) (hr : ∀ v ∈ (X c).vs, (∃ z ∈ t, v ∈ (X z).vs) → v ∈ (X p).vs) : Own X m t (fun i => if own i = c then p else own i) := by
  have hpc : p ≠ c := fun e => hc (e ▸ hp)
  have hne : ∀ n ∈ t, n ≠ c := fun n hn e => hc (e ▸ hn)
  have key : ∀ n ∈ t, ∀ n' ∈ t, n ≠ n' → ∀ v, inD X (clF m own n) v ∨ (n = p ∧ inD X (clF m own c) v) → inD X (clF m own n') v → v ∈ (X n).vs ∧ v ∈ (X n').vs := fun n hn n' hn' hnn v h1 h2 => by
    rcases h1 with h1 | ⟨rfl, h1⟩
    · exact h.sep n (by simp [hn]) n' (by simp [hn']) hnn v h1 h2
    · obtain ⟨q1, q2⟩ := h.sep c (by simp) n' (by simp [hn']) (fun e => hne n' hn' e.symm) v h1 h2
      exact ⟨hr v q1 ⟨n', hn', q2⟩, q2⟩
  have hin : ∀ n ∈ t, ∀ v, inD X (clF m (fun i => if own i = c then p else own i) n) v → inD X (clF m own n) v ∨ (n = p ∧ inD X (clF m own c) v) := fun n hn v => by
    rintro ⟨i, hi, hv⟩
    rcases (clF_step hpc n i (hne n hn)).1 hi with h1 | ⟨h1, h2⟩
    · exact .inl ⟨i, h1, hv⟩
    · exact .inr ⟨h1, i, h2, hv⟩
  refine ⟨fun i hi => ?_, fun n hn => ?_, fun n hn n' hn' hnn v h1 h2 => ?_⟩
  · by_cases e : own i = c
    · simp only [if_pos e]; exact hp
    · simp only [if_neg e]
      exact (List.mem_cons.1 (h.lt i hi)).resolve_left e
  · obtain ⟨q1, q2⟩ := h.self n (by simp [hn])
    refine ⟨q1, ?_⟩
    simp only [q2, if_neg (hne n hn)]
  · have k1 := hin n hn v h1
    have k2 := hin n' hn' v h2
    rcases k2 with k2 | ⟨rfl, k2⟩
    · exact key n hn n' hn' hnn v k1 k2
    · rcases k1 with k1 | ⟨e, _⟩
      · have := key n' hn' n hn hnn.symm v (.inr ⟨rfl, k2⟩) k1
        exact ⟨this.2, this.1⟩
      · exact absurd e hnn
end

/-- One step towards the root: the parent keeps the rows that agree with a row of c. -/
noncomputable def upS (X : Nat → At) (ps : List Int) (R : Nat → List RL.R) (c : Nat) : Nat → List RL.R :=
  if JT.par ps c < 0 then R else fun n => if n = (JT.par ps c).toNat then semiF ⟨(X n).vs, R n⟩ ⟨(X c).vs, R c⟩ else R n
/-- One step from the root: c keeps the rows that agree with a row of its parent. -/
noncomputable def dnS (X : Nat → At) (ps : List Int) (c : Nat) (R : Nat → List RL.R) : Nat → List RL.R :=
  if JT.par ps c < 0 then R else fun n => if n = c then semiF ⟨(X c).vs, R c⟩ ⟨(X (JT.par ps c).toNat).vs, R (JT.par ps c).toNat⟩ else R n

section
variable {X : Nat → At} {m : Nat} {ps : List Int} (hn : ∀ i, i < m → (X i).vs.Nodup)
include hn
/-- Towards the root: each node holds what its part of the tree allows; the root what all allows. -/
theorem up_run : ∀ (l : List Nat) (own : Nat → Nat) (R : Nat → List RL.R), Own X m l own → JT.PRip ps (fun i v => v ∈ (X i).vs) l → l.Nodup → (∀ n ∈ l, ∀ x, x ∈ R n ↔ PrF X (X n).vs (clF m own n) x) →
    (∀ n, n ∉ l → l.foldl (upS X ps) R n = R n) ∧ ∀ n ∈ l, (JT.par ps n < 0 ∧ ∀ x, x ∈ l.foldl (upS X ps) R n ↔ PrF X (X n).vs (fun i => i < m) x) ∨ ∃ (p : Nat) (D : Nat → Prop), p ∈ l ∧ JT.par ps n = (p : Int) ∧ Cut X m n p D ∧ ∀ x, x ∈ l.foldl (upS X ps) R n ↔ PrF X (X n).vs D x
  | [], _, _, _, _, _, _ => ⟨fun _ _ => rfl, fun n h => (by simp at h)⟩
  | c :: t, own, R, hO, hR, hnd, hI => by
    obtain ⟨hct, hnt⟩ := List.nodup_cons.1 hnd
    obtain ⟨h1, h2⟩ := hR
    rw [List.foldl_cons]
    rcases h1 with ⟨rfl, hneg⟩ | ⟨p, hp, hpar, hr⟩
    · have e : upS X ps R c = R := by unfold upS; rw [if_pos hneg]
      rw [e]
      refine ⟨fun _ _ => rfl, fun n hn' => ?_⟩
      obtain rfl := List.mem_singleton.1 hn'
      refine .inl ⟨hneg, fun x => ?_⟩
      rw [List.foldl_nil, hI n (by simp)]
      have : ∀ i, clF m own n i ↔ i < m := fun i => ⟨fun h => h.1, fun h => ⟨h, List.mem_singleton.1 (hO.lt i h)⟩⟩
      exact ⟨PrF.mono fun i hi => (this i).2 hi, PrF.mono fun i hi => (this i).1 hi⟩
    · have hpc : p ≠ c := fun e => hct (e ▸ hp)
      have hcut := hO.cut hp hct hr
      have hst := hO.step hp hct hr
      have e : ∀ n, upS X ps R c n = if n = p then semiF ⟨(X n).vs, R n⟩ ⟨(X c).vs, R c⟩ else R n := fun n => by
        unfold upS
        rw [hpar, if_neg (by omega), Int.toNat_natCast]
      have hpm := (hO.self p (by simp [hp])).1
      have hcm := (hO.self c (by simp)).1
      have hI2 : ∀ n ∈ t, ∀ x, x ∈ upS X ps R c n ↔ PrF X (X n).vs (clF m (fun i => if own i = c then p else own i) n) x := fun n hnt x => by
        have hnc : n ≠ c := fun e => hct (e ▸ hnt)
        rw [e]
        by_cases hnp : n = p
        · subst hnp
          rw [if_pos rfl]
          have hs := semi_pr (X := X) (D := clF m own n) (E := clF m own c) (fun x hx => (hI n (by simp [hnt]) x).1 hx) (fun x hx => (hI c (by simp) x).1 hx) (fun x hx => (hI n (by simp [hnt]) x).2 (hx.mono fun i hi => .inl hi)) (fun x hx => (hI c (by simp) x).2 (hx.mono fun i hi => .inr hi)) (hn n hpm) (hn c hcm) (fun v hv => ⟨n, hO.self n (by simp [hnt]), hv⟩) (fun v a b => hO.sep n (by simp [hnt]) c (by simp) hnc v a b) x
          rw [hs]
          exact ⟨PrF.mono fun i hi => by rcases (clF_step hpc n i hnc).1 hi with h | ⟨_, h⟩; exact .inl h; exact .inr h, PrF.mono fun i hi => (clF_step hpc n i hnc).2 (hi.elim .inl fun h => .inr ⟨rfl, h⟩)⟩
        · rw [if_neg hnp, hI n (by simp [hnt])]
          exact ⟨PrF.mono fun i hi => ((clF_step hpc n i hnc).1 hi).resolve_right fun h => hnp h.1, PrF.mono fun i hi => (clF_step hpc n i hnc).2 (.inl hi)⟩
      obtain ⟨k1, k2⟩ := up_run t _ _ hst h2 hnt hI2
      refine ⟨fun n hnl => ?_, fun n hnl => ?_⟩
      · rw [k1 n (fun h => hnl (by simp [h])), e, if_neg (fun h => hnl (by simp [h, hp]))]
      · rcases List.mem_cons.1 hnl with rfl | hnl
        · right
          refine ⟨p, _, by simp [hp], hpar, hcut, fun x => ?_⟩
          rw [k1 n hct, e, if_neg hpc.symm]
          exact hI n (by simp) x
        · rcases k2 n hnl with h | ⟨p', D, q1, q2, q3, q4⟩
          · exact .inl h
          · exact .inr ⟨p', D, by simp [q1], q2, q3, q4⟩
/-- From the root: each node holds what all allows. -/
theorem dn_run {R : Nat → List RL.R} : ∀ (l : List Nat), JT.PRip ps (fun i v => v ∈ (X i).vs) l → l.Nodup → (∀ n ∈ l, n < m) →
    (∀ n ∈ l, (JT.par ps n < 0 ∧ ∀ x, x ∈ R n ↔ PrF X (X n).vs (fun i => i < m) x) ∨ ∃ (p : Nat) (D : Nat → Prop), JT.par ps n = (p : Int) ∧ Cut X m n p D ∧ ∀ x, x ∈ R n ↔ PrF X (X n).vs D x) →
    (∀ n, n ∉ l → l.foldr (dnS X ps) R n = R n) ∧ ∀ n ∈ l, ∀ x, x ∈ l.foldr (dnS X ps) R n ↔ PrF X (X n).vs (fun i => i < m) x
  | [], _, _, _, _ => ⟨fun _ _ => rfl, fun n h => (by simp at h)⟩
  | c :: t, hR, hnd, hlt, hI => by
    obtain ⟨hct, hnt⟩ := List.nodup_cons.1 hnd
    obtain ⟨h1, h2⟩ := hR
    obtain ⟨k1, k2⟩ := dn_run t h2 hnt (fun n h => hlt n (by simp [h])) (fun n h => hI n (by simp [h]))
    rw [List.foldr_cons]
    rcases h1 with ⟨rfl, hneg⟩ | ⟨p, hp, hpar, hr⟩
    · have e : dnS X ps c R = R := by unfold dnS; rw [if_pos hneg]
      rw [List.foldr_nil, e]
      refine ⟨fun _ _ => rfl, fun n hn' => ?_⟩
      obtain rfl := List.mem_singleton.1 hn'
      rcases hI n (by simp) with ⟨_, h⟩ | ⟨p, D, q, _⟩
      · exact h
      · omega
    · have hpc : p ≠ c := fun e => hct (e ▸ hp)
      generalize hQ : t.foldr (dnS X ps) R = Q at *
      have e : ∀ n, dnS X ps c Q n = if n = c then semiF ⟨(X c).vs, Q c⟩ ⟨(X p).vs, Q p⟩ else Q n := fun n => by
        unfold dnS
        rw [hpar, if_neg (by omega), Int.toNat_natCast]
      refine ⟨fun n hnl => ?_, fun n hnl x => ?_⟩
      · rw [e, if_neg (fun h => hnl (by simp [h])), k1 n (fun h => hnl (by simp [h]))]
      · rw [e]
        rcases List.mem_cons.1 hnl with rfl | hnl
        · rw [if_pos rfl, k1 n hct]
          rcases hI n (by simp) with ⟨h, _⟩ | ⟨p', D, q1, q2, q3⟩
          · omega
          obtain rfl : p' = p := by omega
          obtain ⟨c1, c2, c3, c4⟩ := q2
          have hall : ∀ i, (D i ∨ (i < m ∧ ¬ D i)) ↔ i < m := fun i => ⟨fun h => h.elim (c1 i) fun h => h.1, fun h => (Classical.em (D i)).imp_right fun h' => ⟨h, h'⟩⟩
          have hpm := hlt p' (by simp [hp])
          have hs := semi_pr (X := X) (D := D) (E := fun i => i < m ∧ ¬ D i) (A := R n) (B := Q p') (T1 := (X n).vs) (T2 := (X p').vs) (fun x hx => (q3 x).1 hx) (fun x hx => ((k2 p' hp x).1 hx).mono fun i hi => hi.1) (fun x hx => (q3 x).2 (hx.mono fun i hi => .inl hi)) (fun x hx => (k2 p' hp x).2 (hx.mono fun i hi => (hall i).2 hi)) (hn n (c1 n c2)) (hn p' hpm) (fun v hv => ⟨n, c2, hv⟩) (fun v a b => c4 v a b) x
          rw [hs]
          exact ⟨PrF.mono fun i hi => (hall i).2 hi, PrF.mono fun i hi => (hall i).1 hi⟩
        · rw [if_neg (show ¬ n = c from fun h => hct (h ▸ hnl))]
          exact k2 n hnl x
end

/-- The projection of an atom to some of its variables. -/
def projA (a : At) (q : Nat → Bool) : At := ⟨a.vs.filter q, RL.ofF (a.P.map fun x => rowF (a.vs.filter q) (getF a.vs x))⟩
/-- The join of two atoms over the variables U. -/
noncomputable def joinA (U : List Nat) (a b : At) : At := by
  classical
  exact ⟨U, RL.ofF (a.P.flatMap fun x => (b.P.filter fun y => decide (agrF a.vs b.vs x y)).map fun y => mergeF U a.vs b.vs x y)⟩
theorem mem_joinA {U : List Nat} {a b : At} {z : RL.R} : z ∈ (joinA U a b).P ↔ ∃ x ∈ a.P, ∃ y ∈ b.P, agrF a.vs b.vs x y ∧ z = mergeF U a.vs b.vs x y := by
  unfold joinA
  simp only [RL.mem_ofF, List.mem_flatMap, List.mem_map, List.mem_filter, decide_eq_true_eq]
  constructor
  · rintro ⟨x, hx, y, ⟨hy, hag⟩, rfl⟩; exact ⟨x, hx, y, hy, hag, rfl⟩
  · rintro ⟨x, hx, y, hy, hag, rfl⟩; exact ⟨x, hx, y, ⟨hy, hag⟩, rfl⟩
theorem proj_pr {X : Nat → At} {D : Nat → Prop} {a : At} {q : Nat → Bool} (hn : a.vs.Nodup) (h : ∀ x, x ∈ a.P ↔ PrF X a.vs D x) (x : RL.R) : x ∈ (projA a q).P ↔ PrF X (projA a q).vs D x := by
  unfold projA
  simp only [RL.mem_ofF, List.mem_map]
  constructor
  · rintro ⟨y, hy, rfl⟩
    obtain ⟨f, hf, rfl⟩ := (h y).1 hy
    exact ⟨f, hf, (row_eq.2 fun v hv => (getF_row hn f (List.mem_filter.1 hv).1)).symm⟩
  · rintro ⟨f, hf, rfl⟩
    exact ⟨rowF a.vs f, (h _).2 ⟨f, hf, rfl⟩, row_eq.2 fun v hv => getF_row hn f (List.mem_filter.1 hv).1⟩
/-- The union of two ascending lists of variables below 32. -/
def uniV (us vs : List Nat) : List Nat := (List.range 32).filter fun v => decide (v ∈ us ∨ v ∈ vs)
theorem uniV_asc (us vs : List Nat) : (uniV us vs).Pairwise (· < ·) := List.pairwise_lt_range.filter _
theorem mem_uniV {us vs : List Nat} (hu : ∀ v ∈ us, v < 32) (hv : ∀ v ∈ vs, v < 32) (v : Nat) : v ∈ uniV us vs ↔ v ∈ us ∨ v ∈ vs := by
  unfold uniV
  rw [List.mem_filter, List.mem_range, decide_eq_true_eq]
  exact ⟨fun h => h.2, fun h => ⟨h.elim (hu v) (hv v), h⟩⟩
theorem nodup_of_asc {l : List Nat} (h : l.Pairwise (· < ·)) : l.Nodup := h.imp fun h e => by omega

/-- What holds of a node during the evaluation. -/
structure EvI (X : Nat → At) (m : Nat) (keep : Nat → Bool) (own : Nat → Nat) (n : Nat) (a : At) : Prop where
  asc : a.vs.Pairwise (· < ·)
  lt : ∀ v ∈ a.vs, v < 32
  sub : ∀ v ∈ a.vs, inD X (clF m own n) v
  all : ∀ v ∈ (X n).vs, v ∈ a.vs
  kp : ∀ v, keep v = true → inD X (clF m own n) v → v ∈ a.vs
  rows : ∀ x, x ∈ a.P ↔ PrF X a.vs (fun i => i < m) x
theorem ev_step {X : Nat → At} {m c p : Nat} {keep : Nat → Bool} {t : List Nat} {own : Nat → Nat} {a b : At} (h : Own X m (c :: t) own) (hp : p ∈ t) (hc : c ∉ t) (hr : ∀ v ∈ (X c).vs, (∃ z ∈ t, v ∈ (X z).vs) → v ∈ (X p).vs) (ha : EvI X m keep own p a) (hb : EvI X m keep own c b) :
    EvI X m keep (fun i => if own i = c then p else own i) p (joinA (uniV a.vs (projA b fun v => keep v || decide (v ∈ (X p).vs)).vs) a (projA b fun v => keep v || decide (v ∈ (X p).vs))) := by
  have hpc : p ≠ c := fun e => hc (e ▸ hp)
  obtain ⟨c1, c2, c3, c4⟩ := h.cut hp hc hr
  have hpr := proj_pr (q := fun v => keep v || decide (v ∈ (X p).vs)) (nodup_of_asc hb.asc) hb.rows
  have hpv : ∀ v, v ∈ (projA b fun v => keep v || decide (v ∈ (X p).vs)).vs ↔ v ∈ b.vs ∧ (keep v = true ∨ v ∈ (X p).vs) := fun v => by unfold projA; simp
  have hpa : (projA b fun v => keep v || decide (v ∈ (X p).vs)).vs.Pairwise (· < ·) := hb.asc.filter _
  generalize (projA b fun v => keep v || decide (v ∈ (X p).vs)) = d at *
  have hU := mem_uniV ha.lt (fun v hv => hb.lt v ((hpv v).1 hv).1) (vs := d.vs)
  have hcl : ∀ i, clF m (fun i => if own i = c then p else own i) p i ↔ clF m own p i ∨ clF m own c i := fun i => by rw [clF_step hpc p i hpc]; simp
  have hall : ∀ i, ((i < m ∧ ¬ clF m own c i) ∨ clF m own c i) ↔ i < m := fun i => ⟨fun h => h.elim (fun h => h.1) (c1 i), fun h => (Classical.em (clF m own c i)).symm.imp_left fun h' => ⟨h, h'⟩⟩
  have hdis : ∀ v, inD X (clF m own p) v → inD X (fun i => i < m ∧ ¬ clF m own c i) v := fun v ⟨i, hi, hv⟩ => ⟨i, ⟨hi.1, fun h => hpc (hi.2.symm.trans h.2)⟩, hv⟩
  refine ⟨uniV_asc _ _, fun v hv => ((hU v).1 hv).elim (ha.lt v) fun h => hb.lt v ((hpv v).1 h).1, fun v hv => (inD_or hcl v).2 (((hU v).1 hv).imp (ha.sub v) fun h => hb.sub v ((hpv v).1 h).1), fun v hv => (hU v).2 (.inl (ha.all v hv)), fun v hk hv => (hU v).2 (((inD_or hcl v).1 hv).imp (ha.kp v hk) fun h => (hpv v).2 ⟨hb.kp v hk h, .inl hk⟩), fun z => ?_⟩
  rw [mem_joinA]
  have hj := join_pr (X := X) (D := fun i => i < m ∧ ¬ clF m own c i) (E := clF m own c) (A := a.P) (B := d.P) (T1 := a.vs) (T2 := d.vs) (U := uniV a.vs d.vs) hU (fun x hx => ((ha.rows x).1 hx).mono fun i hi => hi.1) (fun x hx => ((hpr x).1 hx).mono fun i hi => hi.1) (fun x hx => (ha.rows x).2 (hx.mono fun i hi => (hall i).2 hi)) (fun x hx => (hpr x).2 (hx.mono fun i hi => (hall i).2 hi)) (nodup_of_asc ha.asc) (nodup_of_asc hpa) (fun v hv => hdis v (ha.sub v hv)) (fun v hv => hb.sub v ((hpv v).1 hv).1) (fun v h1 h2 => by
    obtain ⟨q1, q2⟩ := c4 v h2 h1
    exact ⟨ha.all v q2, (hpv v).2 ⟨hb.all v q1, .inr q2⟩⟩) z
  refine hj.trans ⟨PrF.mono fun i hi => (hall i).2 hi, PrF.mono fun i hi => (hall i).1 hi⟩
theorem EvI.keep_ {X : Nat → At} {m c p n : Nat} {keep : Nat → Bool} {own : Nat → Nat} {a : At} (h : EvI X m keep own n a) (hpc : p ≠ c) (hn : n ≠ c) (hnp : n ≠ p) : EvI X m keep (fun i => if own i = c then p else own i) n a := by
  have hcl : ∀ i, clF m (fun i => if own i = c then p else own i) n i ↔ clF m own n i := fun i => by rw [clF_step hpc n i hn]; simp [hnp]
  have hin : ∀ v, inD X (clF m (fun i => if own i = c then p else own i) n) v ↔ inD X (clF m own n) v := fun v => ⟨fun ⟨i, hi, hv⟩ => ⟨i, (hcl i).1 hi, hv⟩, fun ⟨i, hi, hv⟩ => ⟨i, (hcl i).2 hi, hv⟩⟩
  exact ⟨h.asc, h.lt, fun v hv => (hin v).2 (h.sub v hv), h.all, fun v hk hv => h.kp v hk ((hin v).1 hv), h.rows⟩

end Go.Proofs.YthgaflmldbgbnaaDoor
end

/- Plain: where some tree is a join tree, the reduction removes everything. -/
import Derived.Test.YtfiegiifoekfmaaJSound
namespace Go.Proofs.Ytfiegiifoekfmaa.JT

/-- A listing of sets: what each shares with the later ones lies in one of these. -/
def Rip (F : Nat → Nat → Prop) : List Nat → Prop
  | [] => True
  | h :: t => (t = [] ∨ ∃ y ∈ t, ∀ v, F h v → (∃ z ∈ t, F z v) → F y v) ∧ Rip F t

theorem Rip.swap {F : Nat → Nat → Prop} {e h : Nat} (hsub : ∀ v, F e v → F h v) : ∀ {t : List Nat}, t.Nodup → (∀ z ∈ t, ∀ v, F h v → F z v → F e v) → Rip F t → Rip F (t.map fun x => if x = e then h else x)
  | [], _, _, _ => trivial
  | a :: t, hnd, hs, hr => by
    obtain ⟨h1, h2⟩ := hr
    rw [List.nodup_cons] at hnd
    refine ⟨?_, Rip.swap hsub hnd.2 (fun z hz => hs z (by simp [hz])) h2⟩
    rcases h1 with h1 | ⟨y, hy, h1⟩
    · left; rw [h1]; rfl
    · right
      refine ⟨if y = e then h else y, List.mem_map.2 ⟨y, hy, rfl⟩, fun v hv hz => ?_⟩
      obtain ⟨z', hz', hzv⟩ := hz
      rw [List.mem_map] at hz'
      obtain ⟨z, hz, rfl⟩ := hz'
      have hv : F (if a = e then h else a) v := hv
      have key : F y v := by
        by_cases hae : a = e
        · rw [if_pos hae] at hv
          have hze : z ≠ e := fun h => hnd.1 (by rw [hae, ← h]; exact hz)
          rw [if_neg hze] at hzv
          have hev := hs z (by simp [hz]) v hv hzv
          exact h1 v (by rw [hae]; exact hev) ⟨z, hz, hzv⟩
        · rw [if_neg hae] at hv
          by_cases hze : z = e
          · rw [if_pos hze] at hzv
            have hev := hs a (by simp) v hzv hv
            exact h1 v hv ⟨z, hz, by rw [hze]; exact hev⟩
          · rw [if_neg hze] at hzv
            exact h1 v hv ⟨z, hz, hzv⟩
      by_cases hye : y = e
      · rw [if_pos hye]; rw [hye] at key; exact hsub v key
      · rw [if_neg hye]; exact key

/-- One set lies in another one of the list: without it the others can still be listed so. -/
theorem Rip.drop {F : Nat → Nat → Prop} : ∀ {l : List Nat} {e i : Nat}, l.Nodup → Rip F l → e ∈ l → i ∈ l → e ≠ i → (∀ v, F e v → F i v) →
    ∃ l', Rip F l' ∧ l'.Nodup ∧ ∀ x, x ∈ l' ↔ x ∈ l ∧ x ≠ e
  | [], _, _, _, _, he, _, _, _ => by simp at he
  | h :: t, e, i, hnd, hr, he, hi, hne, hsub => by
    obtain ⟨h1, h2⟩ := hr
    have hnd' := hnd
    rw [List.nodup_cons] at hnd
    by_cases hhe : h = e
    · subst hhe
      refine ⟨t, h2, hnd.2, fun x => ?_⟩
      constructor
      · intro hx; exact ⟨by simp [hx], fun e => hnd.1 (e ▸ hx)⟩
      · rintro ⟨hx, hxe⟩; simp at hx; rcases hx with hx | hx
        · exact absurd hx hxe
        · exact hx
    have het : e ∈ t := by simp at he; rcases he with he | he; exact absurd he.symm hhe; exact he
    rcases h1 with h1 | ⟨y, hy, h1⟩
    · rw [h1] at het; simp at het
    by_cases hhi : h = i
    · subst hhi
      have hev : ∀ v, F e v → F y v := fun v hv => h1 v (hsub v hv) ⟨e, het, hv⟩
      by_cases hye : y = e
      · subst hye
        have hs : ∀ z ∈ t, ∀ v, F h v → F z v → F y v := fun z hz v hv hzv => h1 v hv ⟨z, hz, hzv⟩
        refine ⟨t.map fun x => if x = y then h else x, Rip.swap hsub hnd.2 hs h2, ?_, fun x => ?_⟩
        · unfold List.Nodup
          rw [List.pairwise_map]
          refine List.Pairwise.imp_of_mem ?_ hnd.2
          intro a b ha hb hab hc
          by_cases hay : a = y
          · rw [if_pos hay] at hc
            by_cases hby : b = y
            · exact hab (hay.trans hby.symm)
            · rw [if_neg hby] at hc; exact hnd.1 (hc ▸ hb)
          · rw [if_neg hay] at hc
            by_cases hby : b = y
            · rw [if_pos hby] at hc; exact hnd.1 (hc ▸ ha)
            · rw [if_neg hby] at hc; exact hab hc
        · rw [List.mem_map]
          constructor
          · rintro ⟨a, ha, rfl⟩
            by_cases hay : a = y
            · rw [if_pos hay]; exact ⟨by simp, fun h => hne h.symm⟩
            · rw [if_neg hay]; exact ⟨by simp [ha], hay⟩
          · rintro ⟨hx, hxy⟩
            simp at hx
            rcases hx with rfl | hx
            · exact ⟨y, het, by simp⟩
            · exact ⟨x, hx, by simp [hxy]⟩
      · obtain ⟨l', hl1, hl2, hl3⟩ := Rip.drop hnd.2 h2 het hy (fun h => hye h.symm) hev
        refine ⟨h :: l', ⟨.inr ⟨y, (hl3 y).2 ⟨hy, hye⟩, fun v hv hz => ?_⟩, hl1⟩, List.nodup_cons.2 ⟨fun hm => hnd.1 ((hl3 h).1 hm).1, hl2⟩, fun x => ?_⟩
        · obtain ⟨z, hz, hzv⟩ := hz
          exact h1 v hv ⟨z, ((hl3 z).1 hz).1, hzv⟩
        · simp only [List.mem_cons, hl3]
          constructor
          · rintro (rfl | ⟨h4, h5⟩)
            · exact ⟨.inl rfl, hhe⟩
            · exact ⟨.inr h4, h5⟩
          · rintro ⟨h4 | h4, h5⟩
            · exact .inl h4
            · exact .inr ⟨h4, h5⟩
    · have hit : i ∈ t := by simp at hi; rcases hi with hi | hi; exact absurd hi.symm hhi; exact hi
      obtain ⟨l', hl1, hl2, hl3⟩ := Rip.drop hnd.2 h2 het hit hne hsub
      refine ⟨h :: l', ⟨.inr ?_, hl1⟩, List.nodup_cons.2 ⟨fun hm => hnd.1 ((hl3 h).1 hm).1, hl2⟩, fun x => ?_⟩
      · by_cases hye : y = e
        · refine ⟨i, (hl3 i).2 ⟨hit, fun h => hne h.symm⟩, fun v hv hz => ?_⟩
          obtain ⟨z, hz, hzv⟩ := hz
          have := h1 v hv ⟨z, ((hl3 z).1 hz).1, hzv⟩
          rw [hye] at this
          exact hsub v this
        · refine ⟨y, (hl3 y).2 ⟨hy, hye⟩, fun v hv hz => ?_⟩
          obtain ⟨z, hz, hzv⟩ := hz
          exact h1 v hv ⟨z, ((hl3 z).1 hz).1, hzv⟩
      · simp only [List.mem_cons, hl3]
        constructor
        · rintro (rfl | ⟨h4, h5⟩)
          · exact ⟨.inl rfl, hhe⟩
          · exact ⟨.inr h4, h5⟩
        · rintro ⟨h4 | h4, h5⟩
          · exact .inl h4
          · exact .inr ⟨h4, h5⟩

/-- A vertex that only one set of the list has may go. -/
theorem Rip.lose {F F' : Nat → Nat → Prop} {e v : Nat} (hF : ∀ x u, F' x u ↔ F x u ∧ ¬ (x = e ∧ u = v)) : ∀ {l : List Nat}, l.Nodup → (∀ z ∈ l, z ≠ e → ¬ F z v) → Rip F l → Rip F' l
  | [], _, _, _ => trivial
  | h :: t, hnd, honly, hr => by
    obtain ⟨h1, h2⟩ := hr
    rw [List.nodup_cons] at hnd
    refine ⟨?_, Rip.lose hF hnd.2 (fun z hz => honly z (by simp [hz])) h2⟩
    rcases h1 with h1 | ⟨y, hy, h1⟩
    · exact .inl h1
    · refine .inr ⟨y, hy, fun u hu hz => ?_⟩
      obtain ⟨z, hz, hzu⟩ := hz
      rw [hF] at hu hzu ⊢
      refine ⟨h1 u hu.1 ⟨z, hz, hzu.1⟩, ?_⟩
      rintro ⟨rfl, rfl⟩
      by_cases hhe : h = y
      · exact hnd.1 (hhe ▸ hy)
      · exact honly h (by simp) hhe hu.1

/-- The edges that are not removed can be listed so. -/
def Cmp (s : Red) : Prop := ∃ l : List Nat, l.Nodup ∧ (∀ x : Nat, x ∈ l ↔ s.rem[x]? = some false) ∧ Rip (bit s.rest) l

theorem Cmp.step {m n : Nat} {s s' : Red} (h : Cmp s) (hok : RedOk m s) (hn : n ≤ 32) (hs : StepIs n s s') : Cmp s' := by
  obtain ⟨l, hl1, hl2, hl3⟩ := h
  cases hs with
  | absorb e i ha =>
    obtain ⟨h1, h2, h3, _, _⟩ := ha
    obtain ⟨p1, p2, p3, p4⟩ := absorbs_parts h3
    obtain ⟨l', q1, q2, q3⟩ := Rip.drop hl1 hl3 ((hl2 e).2 p2) ((hl2 i).2 p3) p1 (fun v hv => sub_of_dif (hok.u32.get e) (hok.u32.get i) p4 hv)
    have hel : e < s.rem.length := (List.getElem?_eq_some_iff.1 p2).1
    refine ⟨l', q2, fun x => ?_, ?_⟩
    · rw [q3, hl2]
      simp only
      by_cases hx : e = x
      · subst hx; simp [hel]
      · rw [List.getElem?_set_ne hx]
        exact ⟨fun h => h.1, fun h => ⟨h, fun e => hx e.symm⟩⟩
    · have hcongr : ∀ (l : List Nat), (∀ x ∈ l, x ≠ e) → Rip (bit s.rest) l → Rip (bit (s.rest.set e 0)) l := by
        intro l
        induction l with
        | nil => intro _ _; trivial
        | cons a t ih =>
          rintro hne ⟨r1, r2⟩
          refine ⟨?_, ih (fun x hx => hne x (by simp [hx])) r2⟩
          rcases r1 with r1 | ⟨y, hy, r1⟩
          · exact .inl r1
          · refine .inr ⟨y, hy, fun v hv hz => ?_⟩
            obtain ⟨z, hz, hzv⟩ := hz
            rw [bit_set_ne (hne a (by simp))] at hv
            rw [bit_set_ne (hne z (by simp [hz]))] at hzv
            rw [bit_set_ne (hne y (by simp [hy]))]
            exact r1 v hv ⟨z, hz, hzv⟩
      exact hcongr l' (fun x hx => ((q3 x).1 hx).2) q1
  | isolate e v hno hv h1 hu he =>
    have hlh := vlast_has (R := s.rest) (v := v) s.rest.length (by omega)
    rw [← he] at hlh
    obtain ⟨hel, heh⟩ := hlh
    have hb := hok.u32.get e
    have h2v : 2 ^ v < 4294967296 := by
      have : 2 ^ v < 2 ^ 32 := Nat.pow_lt_pow_right (by omega) (by omega)
      omega
    refine ⟨l, hl1, hl2, Rip.lose (e := e) (v := v) (fun x u => ?_) hl1 (fun z _ hz hzv => ?_) hl3⟩
    · by_cases hx : x = e
      · subst hx
        unfold bit
        rw [List.getElem?_set_self hel]
        simp only [Option.getD_some]
        rw [testBit_dif _ _ _ hb h2v, Nat.testBit_two_pow]
        simp only [Bool.and_eq_true, Bool.not_eq_true', decide_eq_false_iff_not, true_and]
        constructor
        · rintro ⟨a, b⟩; exact ⟨a, fun c => b c.symm⟩
        · rintro ⟨a, b⟩; exact ⟨a, fun c => b c.symm⟩
      · rw [bit_set_ne hx]
        simp [hx]
    · exact hz (vcnt_one h1 (by rw [has_eq]; exact hzv) heh)

theorem Cmp.run {m n : Nat} (hn : n ≤ 32) : ∀ f s, Cmp s → RedOk m s → Cmp (runF n f s)
  | 0, s, h, _ => h
  | f + 1, s, h, hok => by
    unfold runF
    cases hs : stepF n s with
    | none => exact h
    | some s' => exact Cmp.run hn f s' (h.step hok hn (stepF_is hs)) ((stepF_is hs).ok hok hn).1

/-- A state without a step, so listed, has nothing left. -/
theorem Cmp.zero {m n : Nat} {s : Red} (h : Cmp s) (hok : RedOk m s) (hN : ∀ e, ∀ v, bit s.rest e v → v < n) (hend : stepF n s = none) : s.rest.all (fun z => z == 0) = true := by
  have hno : NoAbsorb s.rest s.rem := by
    intro e he i hi
    cases ha : absorbF s.rest s.rem with
    | none =>
      unfold absorbF at ha
      rw [List.findSome?_eq_none_iff] at ha
      have h3 := ha e (List.mem_range.2 he)
      rw [Option.map_eq_none_iff, List.find?_eq_none] at h3
      simpa using h3 i (List.mem_range.2 hi)
    | some p => unfold stepF at hend; rw [ha] at hend; simp at hend
  have hiso : ∀ v, v < n → vcnt s.rest v s.rest.length ≠ 1 := by
    intro v hv h1
    unfold stepF at hend
    rw [absorbF_none hno] at hend
    cases hi : isolateF n s.rest with
    | none =>
      unfold isolateF at hi
      rw [Option.map_eq_none_iff, List.find?_eq_none] at hi
      have := hi v (List.mem_range.2 hv)
      simp [h1] at this
    | some p => rw [hi] at hend; simp at hend
  have hother : ∀ e v, bit s.rest e v → ∃ e', e' ≠ e ∧ bit s.rest e' v := by
    intro e v hv
    refine Classical.byContradiction fun hn => ?_
    apply hiso v (hN e v hv)
    have hel : e < s.rest.length := by
      refine Classical.byContradiction fun hlt => ?_
      unfold bit at hv
      rw [List.getElem?_eq_none (Nat.le_of_not_lt hlt)] at hv
      simp at hv
    have hpos : 0 < vcnt s.rest v s.rest.length := by
      unfold vcnt nodesTo
      rw [List.countP_pos_iff]
      exact ⟨e, List.mem_range.2 hel, by rw [has_eq]; exact hv⟩
    have hle : vcnt s.rest v s.rest.length ≤ 1 := by
      unfold vcnt nodesTo
      refine (countP_le_one _ _).2 fun i j hij hj ⟨h1, h2⟩ => ?_
      rw [has_eq] at h1 h2
      have a1 : i = e := Classical.byContradiction fun h => hn ⟨i, h, h1⟩
      have a2 : j = e := Classical.byContradiction fun h => hn ⟨j, h, h2⟩
      omega
    omega
  obtain ⟨l, hl1, hl2, hl3⟩ := h
  have hact : ∀ e v, bit s.rest e v → e ∈ l := by
    intro e v hv
    rw [hl2]
    have hel : e < s.rest.length := by
      refine Classical.byContradiction fun hlt => ?_
      unfold bit at hv
      rw [List.getElem?_eq_none (Nat.le_of_not_lt hlt)] at hv
      simp at hv
    have hem : e < s.rem.length := by rw [hok.lrem, ← hok.lrest]; exact hel
    rw [List.getElem?_eq_getElem hem]
    cases hb : s.rem[e] with
    | false => rfl
    | true =>
      have := hok.zero e (by rw [List.getElem?_eq_getElem hem, hb])
      unfold bit at hv
      rw [this] at hv
      simp at hv
  have hnone : ∀ e v, ¬ bit s.rest e v := by
    cases l with
    | nil => intro e v hv; have := hact e v hv; simp at this
    | cons h t =>
      obtain ⟨r1, _⟩ := hl3
      rcases r1 with r1 | ⟨y, hy, r1⟩
      · subst r1
        intro e v hv
        obtain ⟨e', hne, hv'⟩ := hother e v hv
        have b1 := hact e v hv
        have b2 := hact e' v hv'
        simp at b1 b2
        exact hne (b2.trans b1.symm)
      · exfalso
        rw [List.nodup_cons] at hl1
        have hhy : h ≠ y := fun e => hl1.1 (e ▸ hy)
        have hsub : ∀ v, bit s.rest h v → bit s.rest y v := by
          intro v hv
          obtain ⟨e', hne, hv'⟩ := hother h v hv
          have b2 := hact e' v hv'
          simp at b2
          rcases b2 with b2 | b2
          · exact absurd b2 hne
          · exact r1 v hv ⟨e', b2, hv'⟩
        have hh := (hl2 h).1 (by simp)
        have hyy := (hl2 y).1 (by simp [hy])
        have hhl : h < s.rest.length := by have := (List.getElem?_eq_some_iff.1 hh).1; rw [hok.lrem] at this; rw [hok.lrest]; exact this
        have hyl : y < s.rest.length := by have := (List.getElem?_eq_some_iff.1 hyy).1; rw [hok.lrem] at this; rw [hok.lrest]; exact this
        have hd : dif (s.rest[h]?.getD 0) (s.rest[y]?.getD 0) = 0 := by
          apply Nat.eq_of_testBit_eq
          intro v
          rw [testBit_dif _ _ _ (hok.u32.get h) (hok.u32.get y), Nat.zero_testBit]
          cases hb : (s.rest[h]?.getD 0).testBit v with
          | false => rfl
          | true => have := hsub v hb; unfold bit at this; rw [this]; rfl
        have h2 : absorbs s.rest s.rem h y = true := by
          unfold absorbs
          rw [hh, hyy, hd]
          simp [hhy]
        rw [hno h hhl y hyl] at h2
        cases h2
  rw [List.all_eq_true]
  intro z hz
  rw [beq_iff_eq]
  obtain ⟨e, he, rfl⟩ := List.getElem_of_mem hz
  apply Nat.eq_of_testBit_eq
  intro v
  rw [Nat.zero_testBit]
  cases hb : s.rest[e].testBit v with
  | false => rfl
  | true => exact absurd (show bit s.rest e v by unfold bit; simp [he, hb]) (hnone e v)

/-! ### A join tree gives such a listing: the order of its nodes -/
theorem up_pos_order {ps : List Int} {D : List Nat} (h : Greedy ps D) (hv : ∀ p ∈ ps, -1 ≤ p ∧ p < ps.length) (hall : ∀ u, u < ps.length → u ∈ D) {k z t : Nat} (hz : z < ps.length) (ht : up ps k (z : Int) = (t : Int)) : D.idxOf z ≤ D.idxOf t := by
  obtain ⟨i, hi, hiz⟩ := List.getElem_of_mem (hall z hz)
  have hii : D.idxOf z = i := by rw [← hiz]; exact h.nodup.idxOf_getElem i hi
  rcases whole_up h hv hall k i z (by rw [List.getElem?_eq_getElem hi, hiz]) with h1 | ⟨j, x, h1, h2, h3⟩
  · omega
  · have hx : x = t := by omega
    subst hx
    obtain ⟨hj, hjx⟩ := List.getElem?_eq_some_iff.1 h1
    have : D.idxOf x = j := by rw [← hjx]; exact h.nodup.idxOf_getElem j hj
    omega

theorem cmp_start {es : List Nat} {ps : List Int} {N : Int} (hk : chkF N es ps = 0) : Cmp (startF es) ∧ 0 < es.length := by
  have hg : hgCheckF N es = 0 := by
    refine Classical.byContradiction fun h => ?_
    rw [chkF_hg h] at hk; exact h hk
  have hl : ps.length = es.length := by
    refine Classical.byContradiction fun h => ?_
    rw [chkF_len hg h] at hk; omega
  have hr : rootedB ps = true := by
    cases h : rootedB ps with
    | true => rfl
    | false => rw [chkF_root hg hl h] at hk; omega
  have ht : TopsOk es ps := by
    refine Classical.byContradiction fun h => ?_
    rw [chkF_tops hg hl hr h] at hk; omega
  obtain ⟨n, rfl, hn, _, hN⟩ := hgCheckF_zero hg
  have hu : U32 es := fun e he => by
    have := hN e he
    have : 2 ^ n ≤ 2 ^ 32 := Nat.pow_le_pow_right (by omega) hn
    omega
  obtain ⟨hv, hroots, hup⟩ := rooted_parts hr
  have hpos := rooted_pos hr
  have hO := orderF_is ps
  have hwh := (order_whole hv).2 hup
  generalize orderF ps = D at *
  have hall : ∀ u, u < ps.length → u ∈ D := by
    intro u hu
    refine Classical.byContradiction fun hn => ?_
    have h1 : (u :: D).Nodup := List.nodup_cons.2 ⟨hn, hO.1.nodup⟩
    have h2 := nodup_le (m := List.range ps.length) h1 fun x hx => by
      simp at hx; rcases hx with rfl | hx
      · exact List.mem_range.2 hu
      · exact List.mem_range.2 (hO.1.lt hx)
    simp at h2; omega
  rw [topsOk_iff] at ht
  have hlink : ∀ h p v : Nat, h < es.length → ps[h]?.getD 0 = (p : Int) → bit es h v → ¬ bit es p v → (topF es ps h).testBit v = true := by
    intro h p v hh hp hb hnb
    rw [topF_bit hu hl hv hh, hp]
    unfold bit at hb hnb
    simp only [Int.toNat_natCast]
    rw [has_eq, has_eq, hb]
    cases hc : (es[p]?.getD 0).testBit v with
    | true => exact absurd hc hnb
    | false => simp
  -- climbing from a node that holds v one comes to a top of v
  have hclimb : ∀ v k (z : Nat), z < es.length → bit es z v → (∃ t k' : Nat, t < es.length ∧ up ps k' (z : Int) = (t : Int) ∧ (topF es ps t).testBit v = true) ∨ (∃ t : Nat, t < es.length ∧ up ps k (z : Int) = (t : Int) ∧ bit es t v) := by
    intro v k
    induction k with
    | zero => intro z hz hb; exact .inr ⟨z, hz, rfl, hb⟩
    | succ k ih =>
      intro z hz hb
      cases htop : (topF es ps z).testBit v with
      | true => exact .inl ⟨z, 0, hz, rfl, htop⟩
      | false =>
        have htop' := htop
        rw [topF_bit hu hl hv hz, has_eq, has_eq] at htop'
        unfold bit at hb
        rw [hb] at htop'
        simp at htop'
        obtain ⟨hp0, hpb⟩ := htop'
        have hzl : z < ps.length := by omega
        have hpz : ps[z]?.getD 0 = ps[z] := by simp [hzl]
        rw [hpz] at hp0 hpb
        have hvz := hv ps[z] (List.getElem_mem hzl)
        obtain ⟨q, hq⟩ := Int.eq_ofNat_of_zero_le hp0
        rw [hq] at hpb
        simp at hpb
        have hup1 : ∀ j, up ps (j + 1) (z : Int) = up ps j (q : Int) := fun j => by
          rw [up_succ hzl, show par ps z = ps[z] by simp [par, hzl], hq]
        rcases ih q (by omega) hpb with ⟨t, k', h1, h2, h3⟩ | ⟨t, h1, h2, h3⟩
        · exact .inl ⟨t, k' + 1, h1, by rw [hup1]; exact h2, h3⟩
        · exact .inr ⟨t, h1, by rw [hup1]; exact h2, h3⟩
  have htopOf : ∀ v (z : Nat), z < es.length → bit es z v → ∃ t k' : Nat, t < es.length ∧ up ps k' (z : Int) = (t : Int) ∧ (topF es ps t).testBit v = true := by
    intro v z hz hb
    rcases hclimb v ps.length z hz hb with h | ⟨t, _, h2, _⟩
    · exact h
    · have := hup z (by omega); omega
  refine ⟨⟨D, hO.1.nodup, fun x => ?_, ?_⟩, by omega⟩
  · simp only [startF, List.getElem?_replicate]
    constructor
    · intro hx; rw [if_pos (by have := hO.1.lt hx; omega)]
    · intro hx; split at hx
      · next h => exact hall x (by omega)
      · simp at hx
  · have hsuf : ∀ (l : List Nat) (pre : List Nat), pre ++ l = D → Rip (bit es) l := by
      intro l
      induction l with
      | nil => intro _ _; trivial
      | cons h t ih =>
        intro pre hpre
        refine ⟨?_, ih (pre ++ [h]) (by rw [← hpre]; simp)⟩
        cases htt : t with
        | nil => exact .inl rfl
        | cons t0 t1 =>
          rw [← htt]
          right
          have hhD : h ∈ D := by rw [← hpre]; simp
          have hhl : h < ps.length := hO.1.lt hhD
          have hnd := hO.1.nodup
          have hafter : ∀ z ∈ t, D.idxOf h < D.idxOf z := by
            intro z hz
            have hnd2 := hnd
            rw [← hpre, List.nodup_append] at hnd2
            obtain ⟨_, n2, n3⟩ := hnd2
            rw [List.nodup_cons] at n2
            have hhp : h ∉ pre := fun hm => n3 h hm h (by simp) rfl
            have hzp : z ∉ pre := fun hm => n3 z hm z (by simp [hz]) rfl
            have hzh : z ≠ h := fun e => n2.1 (e ▸ hz)
            rw [← hpre, List.idxOf_append, if_neg hhp, List.idxOf_append, if_neg hzp, List.idxOf_cons_self]
            have hb : (h == z) = false := by simpa using fun e => hzh e.symm
            simp [List.idxOf_cons, hb]
          have hph : ps[h]?.getD 0 = ps[h] := by simp [hhl]
          have hvh := hv ps[h] (List.getElem_mem hhl)
          -- h is no root: the root comes last
          have hnr : ¬ ps[h] < 0 := by
            intro hneg
            have ht0 : t0 ∈ t := by rw [htt]; simp
            have ht0D : t0 ∈ D := by rw [← hpre]; simp [ht0]
            have ht0l := hO.1.lt ht0D
            -- climbing from t0 one comes to a root; there is only one
            have hroot : ∃ k r : Nat, r < ps.length ∧ up ps k (t0 : Int) = (r : Int) ∧ par ps r < 0 := by
              have hgen : ∀ k (z : Nat), z < ps.length → up ps k (z : Int) < 0 → ∃ k' r : Nat, r < ps.length ∧ up ps k' (z : Int) = (r : Int) ∧ par ps r < 0 := by
                intro k
                induction k with
                | zero => intro z _ h; simp [up] at h; omega
                | succ k ihk =>
                  intro z hz h
                  by_cases hp : par ps z < 0
                  · exact ⟨0, z, hz, rfl, hp⟩
                  · rw [up_succ hz] at h
                    obtain ⟨q, hq⟩ := Int.eq_ofNat_of_zero_le (show 0 ≤ par ps z by omega)
                    have hvz := hv ps[z] (List.getElem_mem hz)
                    have hpz : par ps z = ps[z] := by simp [par, hz]
                    rw [hq] at h
                    obtain ⟨k', r, a, b, c⟩ := ihk q (by omega) h
                    exact ⟨k' + 1, r, a, by rw [up_succ hz, hq]; exact b, c⟩
              exact hgen ps.length t0 ht0l (hup t0 ht0l)
            obtain ⟨k, r, hrl, hkr, hrneg⟩ := hroot
            have hrh : r = h := by
              have hle := (countP_le_one (fun i => decide (ps[i]?.getD 0 < 0)) ps.length).1 (by
                have := hroots
                unfold rootsF at this
                rw [countP_list ps _ 0] at this
                omega)
              have hr1 : ps[r]?.getD 0 < 0 := by simp [par, hrl] at hrneg; simp [hrl]; exact hrneg
              have hh1 : ps[h]?.getD 0 < 0 := by rw [hph]; exact hneg
              rcases Nat.lt_trichotomy r h with hlt | heq | hgt
              · exact absurd ⟨by simpa using hr1, by simpa using hh1⟩ (hle r h hlt hhl)
              · exact heq
              · exact absurd ⟨by simpa using hh1, by simpa using hr1⟩ (hle h r hgt hrl)
            have h1 := up_pos_order hO.1 hv hall ht0l hkr
            have h2 := hafter t0 ht0
            rw [hrh] at h1
            omega
          obtain ⟨p, hp⟩ := Int.eq_ofNat_of_zero_le (show 0 ≤ ps[h] by omega)
          have hpl : p < ps.length := by omega
          have hpt : p ∈ t := by
            have hpD := hall p hpl
            have hlt : D.idxOf h < D.idxOf p := by
              have hnd2 := hO.1.nodup
              obtain ⟨i, hi, hih⟩ := List.getElem_of_mem hhD
              obtain ⟨j, hj, hjp⟩ := List.getElem_of_mem hpD
              have e1 : D.idxOf h = i := by rw [← hih]; exact hnd2.idxOf_getElem i hi
              have e2 : D.idxOf p = j := by rw [← hjp]; exact hnd2.idxOf_getElem j hj
              have hin := hO.1.after hhl (show par ps h = (p : Int) by simp [par, hhl, hp]) (show D[j]? = some p by rw [List.getElem?_eq_getElem hj, hjp])
              rw [List.mem_take_iff_getElem] at hin
              obtain ⟨i', hi', he⟩ := hin
              have : D.idxOf h = i' := by rw [← he]; exact hnd2.idxOf_getElem i' (by omega)
              omega
            rw [← hpre] at hpD
            simp only [List.mem_append, List.mem_cons] at hpD
            rcases hpD with h1 | h1 | h1
            · exfalso
              have hnd2 := hnd
              rw [← hpre, List.nodup_append] at hnd2
              have hhp : h ∉ pre := fun hm => hnd2.2.2 h hm h (by simp) rfl
              rw [← hpre, List.idxOf_append, if_neg hhp, List.idxOf_append, if_pos h1] at hlt
              have := List.idxOf_lt_length_of_mem h1
              omega
            · rw [h1] at hlt; omega
            · exact h1
          refine ⟨p, hpt, fun v hhv hz => ?_⟩
          obtain ⟨z, hz, hzv⟩ := hz
          refine Classical.byContradiction fun hnp => ?_
          have htoph := hlink h p v (by omega) (by rw [hph]; exact hp) hhv hnp
          have hzD : z ∈ D := by rw [← hpre]; simp [hz]
          have hzl := hO.1.lt hzD
          obtain ⟨t', k', h1, h2, h3⟩ := htopOf v z (by omega) hzv
          have hth : t' = h := by
            rcases Nat.lt_trichotomy t' h with hlt | heq | hgt
            · exact absurd ⟨h3, htoph⟩ (ht v t' h hlt (by omega))
            · exact heq
            · exact absurd ⟨htoph, h3⟩ (ht v h t' hgt (by omega))
          have h4 := up_pos_order hO.1 hv hall hzl h2
          have h5 := hafter z hz
          rw [hth] at h4
          omega
    exact hsuf D [] rfl

/-- A hypergraph with a join tree is acyclic. -/
theorem gyo_complete {es : List Nat} {ps : List Int} {n : Nat} (hk : chkF n es ps = 0) : (reduceF n es).rest.all (fun z => z == 0) = true := by
  have hg : hgCheckF n es = 0 := by
    refine Classical.byContradiction fun h => ?_
    rw [chkF_hg h] at hk; exact h hk
  obtain ⟨n', hn', hn, _, hN⟩ := hgCheckF_zero hg
  obtain rfl : n = n' := by omega
  have hu : U32 es := fun e he => by
    have := hN e he
    have : 2 ^ n ≤ 2 ^ 32 := Nat.pow_le_pow_right (by omega) hn
    omega
  obtain ⟨hc, hm⟩ := cmp_start hk
  have hC : Cmp (reduceF n es) := Cmp.run hn _ _ hc (RedOk.start hu)
  refine hC.zero (reduceF_ok hu hn) (n := n) (fun e v hb => ?_) (reduceF_end hu hn)
  have hb2 := (reduce_snd hu hn hm).sub e v hb
  refine Classical.byContradiction fun hlt => ?_
  have h3 : es[e]?.getD 0 < 2 ^ v := by
    by_cases he : e < es.length
    · have h4 := hN es[e] (List.getElem_mem he)
      have h5 : 2 ^ n ≤ 2 ^ v := Nat.pow_le_pow_right (by omega) (by omega)
      simp [he]; omega
    · simp [List.getElem?_eq_none (Nat.le_of_not_lt he), Nat.two_pow_pos]
  unfold bit at hb2
  rw [Nat.testBit_lt_two_pow h3] at hb2
  cases hb2

end Go.Proofs.Ytfiegiifoekfmaa.JT

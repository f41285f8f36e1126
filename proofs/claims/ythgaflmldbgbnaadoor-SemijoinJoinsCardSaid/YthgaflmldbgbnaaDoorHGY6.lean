/- Plain: the reference's join of atoms in the dense numbering, and what the program's functions leave in its terms. -/
import Derived.Test.YthgaflmldbgbnaaDoorQ11
namespace Go.Proofs.YthgaflmldbgbnaaDoor
open Go.RowKit Go.Sort

/-- All variables of the atoms, ascending. -/
def unionV (al : List At) : List Nat := (List.range 32).filter fun v => al.any fun a => decide (v ∈ a.vs)
def denseR (U : List Nat) (al : List At) : List RA := al.map fun a => (denseA U a).ra
/-- The join of the atoms over all of their variables. -/
def joinR (al : List At) : At := ⟨unionV al, joinF (unionV al).length (al.map (denseA (unionV al)))⟩
def satL (al : List At) (f : Nat → RL.V) : Prop := ∀ a ∈ al, satF a f

theorem unionV_asc (al : List At) : (unionV al).Pairwise (· < ·) := List.pairwise_lt_range.filter _
theorem unionV_nodup (al : List At) : (unionV al).Nodup := nodup_of_asc (unionV_asc al)
theorem mem_unionV {al : List At} (h : ∀ a ∈ al, Gd a) (v : Nat) : v ∈ unionV al ↔ ∃ a ∈ al, v ∈ a.vs := by
  unfold unionV
  rw [List.mem_filter, List.mem_range, List.any_eq_true]
  constructor
  · rintro ⟨-, a, ha, hv⟩
    exact ⟨a, ha, of_decide_eq_true hv⟩
  · rintro ⟨a, ha, hv⟩
    exact ⟨(h a ha).lt v hv, a, ha, decide_eq_true hv⟩
theorem unionV_len (al : List At) : (unionV al).length ≤ 32 := by
  unfold unionV
  exact Nat.le_trans (List.length_filter_le _ _) (by rw [List.length_range]; exact Nat.le_refl _)
theorem unionV_lt {al : List At} {v : Nat} (hv : v ∈ unionV al) : v < 32 := by unfold unionV at hv; exact List.mem_range.1 (List.mem_filter.1 hv).1
theorem idx_mono {U : List Nat} (hU : U.Pairwise (· < ·)) {x y : Nat} (hx : x ∈ U) (hy : y ∈ U) (h : x < y) : U.idxOf x < U.idxOf y := by
  obtain ⟨i, hi, rfl⟩ := List.mem_iff_getElem.1 hx
  obtain ⟨j, hj, rfl⟩ := List.mem_iff_getElem.1 hy
  have hn := nodup_of_asc hU
  rw [hn.idxOf_getElem i hi, hn.idxOf_getElem j hj]
  refine Nat.lt_of_not_le fun hle => ?_
  rcases Nat.lt_or_eq_of_le hle with h1 | h1
  · have := List.pairwise_iff_getElem.1 hU j i hj hi h1; omega
  · subst h1; omega
theorem denseR_at (U : List Nat) (al : List At) : (denseR U al).map RA.at = al.map (denseA U) := by
  unfold denseR
  rw [List.map_map]
  exact List.map_congr_left fun a _ => At.ra_at _
theorem dense_good {al : List At} (h : ∀ a ∈ al, Gd a) (hl : al.length ≤ 32) : Good0 (unionV al).length (denseR (unionV al) al) where
  le := unionV_len al
  many := by unfold denseR; rw [List.length_map]; exact hl
  sm := fun r hr => by
    unfold denseR at hr
    obtain ⟨a, ha, rfl⟩ := List.mem_map.1 hr
    have hg := h a ha
    refine ⟨hg.ss, fun r hr => ?_, ?_, hg.many, ?_, hg.I⟩
    · have := hg.len r hr
      unfold denseA At.ra
      simp only [List.length_map]; omega
    · have := hg.vl
      unfold denseA At.ra
      simp only [List.length_map]; omega
    · have := hg.vl
      unfold denseA At.ra
      simp only [List.length_map]; omega
  ok := fun r hr => by
    unfold denseR at hr
    obtain ⟨a, ha, rfl⟩ := List.mem_map.1 hr
    have hg := h a ha
    have hin : ∀ v ∈ a.vs, v ∈ unionV al := fun v hv => (mem_unionV h v).2 ⟨a, ha, hv⟩
    rw [errAt_arity]
    · rw [if_pos]; unfold At.ra; simp
    · unfold At.ra denseA
      refine List.pairwise_map.2 (List.pairwise_map.2 (hg.asc.imp_of_mem fun {x y} hx hy hlt => ?_))
      exact Int.ofNat_lt.2 (idx_mono (unionV_asc al) (hin x hx) (hin y hy) hlt)
    · intro v hv
      unfold At.ra denseA at hv
      obtain ⟨k, hk, rfl⟩ := List.mem_map.1 hv
      obtain ⟨x, hx, rfl⟩ := List.mem_map.1 hk
      exact ⟨Int.natCast_nonneg _, Int.ofNat_lt.2 (List.idxOf_lt_length_iff.2 (hin x hx))⟩
  cov := fun v hv => by
    obtain ⟨a, ha, hva⟩ := (mem_unionV h _).1 (List.getElem_mem hv)
    refine ⟨(denseA (unionV al) a).ra, List.mem_map.2 ⟨a, ha, rfl⟩, ?_⟩
    unfold denseA At.ra
    refine List.mem_map.2 ⟨v, List.mem_map.2 ⟨_, hva, (unionV_nodup al).idxOf_getElem v hv⟩, rfl⟩
section
variable {al bl : List At} (h : ∀ a ∈ al, Gd a) (hl : al.length ≤ 32)
include h hl
theorem mem_joinR (z : RL.R) : z ∈ (joinR al).P ↔ z.length = (unionV al).length ∧ ∀ a ∈ al, rowF a.vs (getF (unionV al) z) ∈ a.P := by
  have hg := dense_good h hl
  have h1 := hg.mem z
  rw [denseR_at] at h1
  show z ∈ joinF _ _ ↔ _
  rw [h1]
  refine and_congr_right fun _ => ?_
  unfold denseR
  constructor
  · intro h2 a ha
    have := h2 _ (List.mem_map.2 ⟨a, ha, rfl⟩)
    rw [At.ra_at, sat_dense] at this
    exact this
  · intro h2 r hr
    obtain ⟨a, ha, rfl⟩ := List.mem_map.1 hr
    rw [At.ra_at, sat_dense]
    exact h2 a ha
theorem rows_joinR (z : RL.R) : z ∈ (joinR al).P ↔ ∃ f, satL al f ∧ rowF (unionV al) f = z := by
  rw [mem_joinR h hl]
  constructor
  · rintro ⟨h1, h2⟩
    exact ⟨getF (unionV al) z, h2, row_getF (unionV_nodup al) h1⟩
  · rintro ⟨f, hf, rfl⟩
    refine ⟨row_len _ _, fun a ha => ?_⟩
    have e : rowF a.vs (getF (unionV al) (rowF (unionV al) f)) = rowF a.vs f := row_eq.2 fun v hv => getF_row (unionV_nodup al) f ((mem_unionV h v).2 ⟨a, ha, hv⟩)
    rw [e]
    exact hf a ha
theorem joinR_ss : RL.SS (joinR al).P := by
  have hg := (dense_good h hl).joinSS
  rw [denseR_at] at hg
  exact hg
theorem joinR_I : ∀ r ∈ (joinR al).P, ∀ c ∈ r, IsI c := by
  have hg := (dense_good h hl).I
  rw [denseR_at] at hg
  exact hg
end
/-- The atoms as a function of the place. -/
theorem satD_list {al : List At} {X : Nat → At} (hX : X = fun i => al.getD i ⟨[], []⟩) (f : Nat → RL.V) : satD X (fun i => i < al.length) f ↔ satL al f := by
  subst hX
  constructor
  · intro h a ha
    obtain ⟨i, hi, rfl⟩ := List.getElem_of_mem ha
    have := h i hi
    simpa [hi] using this
  · intro h i hi
    have := h _ (List.getElem_mem hi)
    simpa [hi] using this
theorem joinR_many {al : List At} (h : ∀ a ∈ al, Gd a) (hl : al.length ≤ 32) {X : Nat → At} (hX : X = fun i => al.getD i ⟨[], []⟩) (hF : Few X al.length) : (joinR al).P.length ≤ 60000 := by
  obtain ⟨V, J, hV, hsub, hJ, hall⟩ := hF
  have hUV : ∀ v ∈ unionV al, v ∈ V := fun v hv => by
    obtain ⟨a, ha, hva⟩ := (mem_unionV h v).1 hv
    obtain ⟨i, hi, rfl⟩ := List.getElem_of_mem ha
    refine hsub i hi v ?_
    rw [hX]; simpa [hi] using hva
  have hmem : ∀ x ∈ (joinR al).P.map fun z => rowF V (getF (unionV al) z), x ∈ J := fun x hx => by
    obtain ⟨z, hz, rfl⟩ := List.mem_map.1 hx
    exact hall _ ((satD_list hX _).2 ((mem_joinR h hl z).1 hz).2)
  have hnd : ((joinR al).P.map fun z => rowF V (getF (unionV al) z)).Nodup := by
    have h1 := ss_nodup (joinR_ss h hl)
    refine List.pairwise_map.2 (h1.imp_of_mem fun {x y} hx hy hne e => hne ?_)
    have e1 := row_getF (unionV_nodup al) ((mem_joinR h hl x).1 hx).1
    have e2 := row_getF (unionV_nodup al) ((mem_joinR h hl y).1 hy).1
    rw [← e1, ← e2]
    refine row_eq.2 fun v hv => ?_
    exact row_eq.1 e v (hUV v hv)
  have := nodupR_le hnd hmem
  rw [List.length_map] at this
  omega
theorem at_ext {a b : At} (hv : a.vs = b.vs) (ha : RL.SS a.P) (hb : RL.SS b.P) (h : ∀ x, x ∈ a.P ↔ x ∈ b.P) : a = b := by
  have hP := RL.SS.ext ha hb h
  cases a; cases b
  simp only at hv hP
  rw [hv, hP]
theorem joinR_ext {al bl : List At} (h : ∀ a ∈ al, Gd a) (hl : al.length ≤ 32) (h' : ∀ a ∈ bl, Gd a) (hl' : bl.length ≤ 32) (hu : unionV al = unionV bl) (hs : ∀ f, satL al f ↔ satL bl f) : joinR al = joinR bl :=
  at_ext hu (joinR_ss h hl) (joinR_ss h' hl') fun x => by
    rw [rows_joinR h hl, rows_joinR h' hl', hu]
    exact ⟨fun ⟨f, a, b⟩ => ⟨f, (hs f).1 a, b⟩, fun ⟨f, a, b⟩ => ⟨f, (hs f).2 a, b⟩⟩
theorem unionV_congr {al bl : List At} (h : ∀ v, (∃ a ∈ al, v ∈ a.vs) ↔ ∃ a ∈ bl, v ∈ a.vs) : unionV al = unionV bl := by
  unfold unionV
  refine List.filter_congr fun v _ => ?_
  rw [Bool.eq_iff_iff, List.any_eq_true, List.any_eq_true]
  simp only [decide_eq_true_eq]
  exact h v
theorem gd2 {a b : At} (ha : Gd a) (hb : Gd b) : ∀ c ∈ [a, b], Gd c := fun c hc => by
  rcases List.mem_cons.1 hc with rfl | hc
  · exact ha
  · rw [List.mem_singleton.1 hc]; exact hb
theorem satL2 {a b : At} (f : Nat → RL.V) : satL [a, b] f ↔ satF a f ∧ satF b f := by unfold satL; simp
theorem uniV_union (a b : At) : uniV a.vs b.vs = unionV [a, b] := by
  unfold uniV unionV
  refine List.filter_congr fun v _ => ?_
  simp
theorem semi_rows {a b : At} (ha : Gd a) (hb : Gd b) (x : RL.R) : x ∈ semiF a b ↔ ∃ f, satF a f ∧ satF b f ∧ rowF a.vs f = x := by
  rw [semi_proj (unionV_nodup [a, b]) ha.nodup hb.nodup (fun v => by rw [mem_unionV (gd2 ha hb)]; simp) ha.len hb.len]
  constructor
  · rintro ⟨z, -, h1, h2, h3⟩
    exact ⟨_, h1, h2, h3⟩
  · rintro ⟨f, h1, h2, rfl⟩
    have e : ∀ c : At, c ∈ [a, b] → rowF c.vs (getF (unionV [a, b]) (rowF (unionV [a, b]) f)) = rowF c.vs f := fun c hc => row_eq.2 fun v hv => getF_row (unionV_nodup _) f ((mem_unionV (gd2 ha hb) v).2 ⟨c, hc, hv⟩)
    have ea := e a (by simp)
    have eb := e b (by simp)
    exact ⟨rowF (unionV [a, b]) f, row_len _ _, by rw [ea]; exact h1, by rw [eb]; exact h2, ea⟩
theorem join_ref {a b : At} (ha : Gd a) (hb : Gd b) : joinA (uniV a.vs b.vs) a b = joinR [a, b] := by
  have hg := gd2 ha hb
  have hu := uniV_union a b
  refine at_ext hu (by rw [joinA_list ha hb]; exact RL.SS.of _) (joinR_ss hg (by simp)) fun z => ?_
  rw [mem_joinA, mem_joinR hg (by simp), ← join_two (U := uniV a.vs b.vs) (by rw [hu]; exact unionV_nodup _) ha.nodup hb.nodup (mem_uniV ha.lt hb.lt) ha.len hb.len, hu]
  simp
theorem join_comm {a b : At} (ha : Gd a) (hb : Gd b) : joinR [b, a] = joinR [a, b] :=
  joinR_ext (gd2 hb ha) (by simp) (gd2 ha hb) (by simp) (unionV_congr fun v => by simp [or_comm]) fun f => by rw [satL2, satL2]; exact and_comm
theorem join_semi {a b : At} (ha : Gd a) (hb : Gd b) : joinR [⟨a.vs, semiF a b⟩, b] = joinR [a, b] :=
  joinR_ext (gd2 (ha.semi (b := b)) hb) (by simp) (gd2 ha hb) (by simp) (unionV_congr fun v => by simp) fun f => by
    rw [satL2, satL2]
    constructor
    · rintro ⟨h1, h2⟩
      exact ⟨(mem_semiF.1 h1).1, h2⟩
    · rintro ⟨h1, h2⟩
      exact ⟨(semi_rows ha hb _).2 ⟨f, h1, h2, rfl⟩, h2⟩
end Go.Proofs.YthgaflmldbgbnaaDoor

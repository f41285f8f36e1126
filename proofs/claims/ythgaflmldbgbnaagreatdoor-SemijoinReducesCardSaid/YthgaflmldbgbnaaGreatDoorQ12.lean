/- Parts of the proof, merged: GY6, G34, Y30, Y27, Y33, G35. -/
import Derived.Test.YthgaflmldbgbnaaGreatDoorQ11
import Derived.Test.YthgaflmldbgbnaaGreatDoorQ9
import Derived.Test.YthgaflmldbgbnaaGreatDoorQ10
import Derived.Test.YthgaflmldbgbnaaGreatDoorQ4
import Derived.Test.YthgaflmldbgbnaaGreatDoorQ6
import Derived.Test.YthgaflmldbgbnaaGreatDoorQ5
import Derived.Test.YthgaflmldbgbnaaGreatDoorQ1

set_option maxRecDepth 100000
namespace Go.Proofs.YthgaflmldbgbnaaGreatDoor
section
open Go.RowKit Go.Sort

def unionV (al : List At) : List Nat := (List.range 32).filter fun v => al.any fun a => decide (v ∈ a.vs)
def denseR (U : List Nat) (al : List At) : List RA := al.map fun a => (denseA U a).ra
def joinR (al : List At) : At := ⟨unionV al, joinF (unionV al).length (al.map (denseA (unionV al)))⟩
def satL (al : List At) (f : Nat → RL.V) : Prop := ∀ a ∈ al, satF a f

theorem unionV_asc (al : List At) : (unionV al).Pairwise (· < ·) := List.pairwise_lt_range.filter _
theorem unionV_nodup (al : List At) : (unionV al).Nodup := nodup_of_asc (unionV_asc al)
theorem mem_unionV {al : List At} (h : ∀ a ∈ al, Gd a) (v : Nat) : v ∈ unionV al ↔ ∃ a ∈ al, v ∈ a.vs := by
  unfold unionV
  rw [List.mem_filter, List.mem_range, List.any_eq_true]
  constructor
  · rintro ⟨-, a, ha, hv⟩
    exact ⟨a, ha, of_decide_eq_true hv⟩
  · rintro ⟨a, ha, hv⟩
    exact ⟨(h a ha).lt v hv, a, ha, decide_eq_true hv⟩
theorem unionV_len (al : List At) : (unionV al).length ≤ 32 := by
  unfold unionV
  exact Nat.le_trans (List.length_filter_le _ _) (by rw [List.length_range]; exact Nat.le_refl _)
theorem unionV_lt {al : List At} {v : Nat} (hv : v ∈ unionV al) : v < 32 := by unfold unionV at hv; exact List.mem_range.1 (List.mem_filter.1 hv).1
theorem idx_mono {U : List Nat} (hU : U.Pairwise (· < ·)) {x y : Nat} (hx : x ∈ U) (hy : y ∈ U) (h : x < y) : U.idxOf x < U.idxOf y := by
  obtain ⟨i, hi, rfl⟩ := List.mem_iff_getElem.1 hx
  obtain ⟨j, hj, rfl⟩ := List.mem_iff_getElem.1 hy
  have hn := nodup_of_asc hU
  rw [hn.idxOf_getElem i hi, hn.idxOf_getElem j hj]
  refine Nat.lt_of_not_le fun hle => ?_
  rcases Nat.lt_or_eq_of_le hle with h1 | h1
  · have := List.pairwise_iff_getElem.1 hU j i hj hi h1; omega
  · subst h1; omega
theorem denseR_at (U : List Nat) (al : List At) : (denseR U al).map RA.at = al.map (denseA U) := by
  unfold denseR
  rw [List.map_map]
  exact List.map_congr_left fun a _ => At.ra_at _
theorem dense_good {al : List At} (h : ∀ a ∈ al, Gd a) (hl : al.length ≤ 32) : Good0 (unionV al).length (denseR (unionV al) al) where
  le := unionV_len al
  many := by unfold denseR; rw [List.length_map]; exact hl
  sm := fun r hr => by
    unfold denseR at hr
    obtain ⟨a, ha, rfl⟩ := List.mem_map.1 hr
    have hg := h a ha
    refine ⟨hg.ss, fun r hr => ?_, ?_, hg.many, ?_, hg.I⟩
    · have := hg.len r hr
      unfold denseA At.ra
      simp only [List.length_map]; omega
    · have := hg.vl
      unfold denseA At.ra
      simp only [List.length_map]; omega
    · have := hg.vl
      unfold denseA At.ra
      simp only [List.length_map]; omega
  ok := fun r hr => by
    unfold denseR at hr
    obtain ⟨a, ha, rfl⟩ := List.mem_map.1 hr
    have hg := h a ha
    have hin : ∀ v ∈ a.vs, v ∈ unionV al := fun v hv => (mem_unionV h v).2 ⟨a, ha, hv⟩
    rw [errAt_arity]
    · rw [if_pos]; unfold At.ra; simp
    · unfold At.ra denseA
      refine List.pairwise_map.2 (List.pairwise_map.2 (hg.asc.imp_of_mem fun {x y} hx hy hlt => ?_))
      exact Int.ofNat_lt.2 (idx_mono (unionV_asc al) (hin x hx) (hin y hy) hlt)
    · intro v hv
      unfold At.ra denseA at hv
      obtain ⟨k, hk, rfl⟩ := List.mem_map.1 hv
      obtain ⟨x, hx, rfl⟩ := List.mem_map.1 hk
      exact ⟨Int.natCast_nonneg _, Int.ofNat_lt.2 (List.idxOf_lt_length_iff.2 (hin x hx))⟩
  cov := fun v hv => by
    obtain ⟨a, ha, hva⟩ := (mem_unionV h _).1 (List.getElem_mem hv)
    refine ⟨(denseA (unionV al) a).ra, List.mem_map.2 ⟨a, ha, rfl⟩, ?_⟩
    unfold denseA At.ra
    refine List.mem_map.2 ⟨v, List.mem_map.2 ⟨_, hva, (unionV_nodup al).idxOf_getElem v hv⟩, rfl⟩
section
variable {al bl : List At} (h : ∀ a ∈ al, Gd a) (hl : al.length ≤ 32)
include h hl
theorem mem_joinR (z : RL.R) : z ∈ (joinR al).P ↔ z.length = (unionV al).length ∧ ∀ a ∈ al, rowF a.vs (getF (unionV al) z) ∈ a.P := by
  have hg := dense_good h hl
  have h1 := hg.mem z
  rw [denseR_at] at h1
  show z ∈ joinF _ _ ↔ _
  rw [h1]
  refine and_congr_right fun _ => ?_
  unfold denseR
  constructor
  · intro h2 a ha
    have := h2 _ (List.mem_map.2 ⟨a, ha, rfl⟩)
    rw [At.ra_at, sat_dense] at this
    exact this
  · intro h2 r hr
    obtain ⟨a, ha, rfl⟩ := List.mem_map.1 hr
    rw [At.ra_at, sat_dense]
    exact h2 a ha
theorem rows_joinR (z : RL.R) : z ∈ (joinR al).P ↔ ∃ f, satL al f ∧ rowF (unionV al) f = z := by
  rw [mem_joinR h hl]
  constructor
  · rintro ⟨h1, h2⟩
    exact ⟨getF (unionV al) z, h2, row_getF (unionV_nodup al) h1⟩
  · rintro ⟨f, hf, rfl⟩
    refine ⟨row_len _ _, fun a ha => ?_⟩
    have e : rowF a.vs (getF (unionV al) (rowF (unionV al) f)) = rowF a.vs f := row_eq.2 fun v hv => getF_row (unionV_nodup al) f ((mem_unionV h v).2 ⟨a, ha, hv⟩)
    rw [e]
    exact hf a ha
theorem joinR_ss : RL.SS (joinR al).P := by
  have hg := (dense_good h hl).joinSS
  rw [denseR_at] at hg
  exact hg
theorem joinR_I : ∀ r ∈ (joinR al).P, ∀ c ∈ r, IsI c := by
  have hg := (dense_good h hl).I
  rw [denseR_at] at hg
  exact hg
end
theorem satD_list {al : List At} {X : Nat → At} (hX : X = fun i => al.getD i ⟨[], []⟩) (f : Nat → RL.V) : satD X (fun i => i < al.length) f ↔ satL al f := by
  subst hX
  constructor
  · intro h a ha
    obtain ⟨i, hi, rfl⟩ := List.getElem_of_mem ha
    have := h i hi
    simpa [hi] using this
  · intro h i hi
    have := h _ (List.getElem_mem hi)
    simpa [hi] using this
theorem joinR_many {al : List At} (h : ∀ a ∈ al, Gd a) (hl : al.length ≤ 32) {X : Nat → At} (hX : X = fun i => al.getD i ⟨[], []⟩) (hF : Few X al.length) : (joinR al).P.length ≤ 60000 := by
  obtain ⟨V, J, hV, hsub, hJ, hall⟩ := hF
  have hUV : ∀ v ∈ unionV al, v ∈ V := fun v hv => by
    obtain ⟨a, ha, hva⟩ := (mem_unionV h v).1 hv
    obtain ⟨i, hi, rfl⟩ := List.getElem_of_mem ha
    refine hsub i hi v ?_
    rw [hX]; simpa [hi] using hva
  have hmem : ∀ x ∈ (joinR al).P.map fun z => rowF V (getF (unionV al) z), x ∈ J := fun x hx => by
    obtain ⟨z, hz, rfl⟩ := List.mem_map.1 hx
    exact hall _ ((satD_list hX _).2 ((mem_joinR h hl z).1 hz).2)
  have hnd : ((joinR al).P.map fun z => rowF V (getF (unionV al) z)).Nodup := by
    have h1 := ss_nodup (joinR_ss h hl)
    refine List.pairwise_map.2 (h1.imp_of_mem fun {x y} hx hy hne e => hne ?_)
    have e1 := row_getF (unionV_nodup al) ((mem_joinR h hl x).1 hx).1
    have e2 := row_getF (unionV_nodup al) ((mem_joinR h hl y).1 hy).1
    rw [← e1, ← e2]
    refine row_eq.2 fun v hv => ?_
    exact row_eq.1 e v (hUV v hv)
  have := nodupR_le hnd hmem
  rw [List.length_map] at this
  omega
theorem joinR_gd {al : List At} (h : ∀ a ∈ al, Gd a) (hl : al.length ≤ 32) {X : Nat → At} (hX : X = fun i => al.getD i ⟨[], []⟩) (hF : Few X al.length) : Gd (joinR al) where
  asc := unionV_asc al
  lt := fun _ hv => unionV_lt hv
  len := fun r hr => ((mem_joinR h hl r).1 hr).1
  ss := joinR_ss h hl
  I := joinR_I h hl
  many := joinR_many h hl hX hF
theorem at_ext {a b : At} (hv : a.vs = b.vs) (ha : RL.SS a.P) (hb : RL.SS b.P) (h : ∀ x, x ∈ a.P ↔ x ∈ b.P) : a = b := by
  have hP := RL.SS.ext ha hb h
  cases a; cases b
  simp only at hv hP
  rw [hv, hP]
theorem rows_projR {al : List At} (h : ∀ a ∈ al, Gd a) (hl : al.length ≤ 32) (q : Nat → Bool) (x : RL.R) : x ∈ (projA (joinR al) q).P ↔ ∃ f, satL al f ∧ rowF ((unionV al).filter q) f = x := by
  show x ∈ RL.ofF ((joinR al).P.map fun z => rowF ((unionV al).filter q) (getF (unionV al) z)) ↔ _
  rw [RL.mem_ofF]
  constructor
  · intro hx
    obtain ⟨z, hz, rfl⟩ := List.mem_map.1 hx
    exact ⟨getF (unionV al) z, ((mem_joinR h hl z).1 hz).2, rfl⟩
  · rintro ⟨f, hf, rfl⟩
    refine List.mem_map.2 ⟨rowF (unionV al) f, (rows_joinR h hl _).2 ⟨f, hf, rfl⟩, ?_⟩
    exact row_eq.2 fun v hv => getF_row (unionV_nodup al) f (List.mem_filter.1 hv).1
theorem filter_own {al : List At} (h : ∀ a ∈ al, Gd a) {a : At} (ha : a ∈ al) : (unionV al).filter (fun v => decide (v ∈ a.vs)) = a.vs :=
  nat_asc_ext ((unionV_asc al).filter _) (h a ha).asc fun v => by
    rw [List.mem_filter, decide_eq_true_eq, mem_unionV h]
    exact ⟨fun h => h.2, fun h => ⟨⟨a, ha, h⟩, h⟩⟩
theorem red_ref {al : List At} {ps : List Int} {X : Nat → At} (hX : X = fun i => al.getD i ⟨[], []⟩) (hg : ∀ a ∈ al, Gd a) (hl : al.length ≤ 32) (h : TreeOk al ps X) {n : Nat} (hn : n < al.length) : (⟨(X n).vs, redF ps X n⟩ : At) = projA (joinR al) fun v => decide (v ∈ (X n).vs) := by
  have hXn : X n ∈ al := by rw [hX]; simp [hn]
  have hfo := filter_own hg hXn
  refine at_ext hfo.symm (red_gd hX hg n hn).ss (RL.SS.of _) fun x => ?_
  show x ∈ redF ps X n ↔ _
  rw [red_rows hX hg h hn, rows_projR hg hl, hfo]
  unfold PrF
  simp only [satD_list hX]
theorem sat_red {al : List At} {ps : List Int} {X : Nat → At} (hX : X = fun i => al.getD i ⟨[], []⟩) (hg : ∀ a ∈ al, Gd a) (h : TreeOk al ps X) (f : Nat → RL.V) : satL (mkL al.length X (redF ps X)) f ↔ satL al f := by
  rw [← satD_list hX]
  unfold satL mkL
  constructor
  · intro h1 i hi
    have h2 := h1 _ (List.mem_map.2 ⟨i, List.mem_range.2 hi, rfl⟩)
    obtain ⟨g, hg1, hg2⟩ := (red_rows hX hg h hi _).1 h2
    have := hg1 i hi
    unfold satF at this ⊢
    rw [hg2] at this
    exact this
  · intro h1 a ha
    obtain ⟨i, hi, rfl⟩ := List.mem_map.1 ha
    exact (red_rows hX hg h (List.mem_range.1 hi) _).2 ⟨f, h1, rfl⟩
end
section
open Go.RowKit Go.Sort

def inF (vs : List Int) (v : Int) : Nat × Bool := if v ∈ vs then (vs.idxOf v, true) else (0, false)
theorem inF_at {vs : List Int} {v : Int} {k : Nat} (hk : k < vs.length) (hv : vs[k] = v) (h0 : ∀ u ∈ vs.take k, u ≠ v) : inF vs v = (k, true) := by
  unfold inF
  have hm : v ∈ vs := hv ▸ List.getElem_mem hk
  rw [if_pos hm]
  have : vs.idxOf v = k := by
    have e : vs = vs.take k ++ vs.drop k := (List.take_append_drop k vs).symm
    rw [e, List.idxOf_append, if_neg (fun h => h0 v h rfl), List.drop_eq_getElem_cons hk, hv, List.idxOf_cons_self, List.length_take]
    omega
  rw [this]
theorem inF_no {vs : List Int} {v : Int} (h0 : ∀ u ∈ vs, u ≠ v) : inF vs v = (0, false) := by
  unfold inF
  rw [if_neg fun h => h0 v h rfl]
theorem inF_nat (vs : List Nat) (v : Nat) : inF (vs.map Int.ofNat) (v : Int) = if v ∈ vs then (vs.idxOf v, true) else (0, false) := by
  have hm : (v : Int) ∈ vs.map Int.ofNat ↔ v ∈ vs := by
    rw [List.mem_map]
    constructor
    · rintro ⟨x, hx, e⟩
      have : x = v := Int.ofNat.inj e
      exact this ▸ hx
    · exact fun h => ⟨v, h, rfl⟩
  unfold inF
  by_cases h : v ∈ vs
  · rw [if_pos (hm.2 h), if_pos h]
    have : ∀ l : List Nat, (l.map Int.ofNat).idxOf (v : Int) = l.idxOf v := by
      intro l
      induction l with
      | nil => rfl
      | cons a t ih =>
        rw [List.map_cons, List.idxOf_cons, List.idxOf_cons, ih]
        have : (Int.ofNat a == (v : Int)) = (a == v) := by
          rw [Bool.eq_iff_iff, beq_iff_eq, beq_iff_eq]
          exact ⟨fun e => Int.ofNat.inj e, fun e => by rw [e]; rfl⟩
        rw [this]
    rw [this]
  · rw [if_neg fun hh => h (hm.1 hh), if_neg h]

set_option maxHeartbeats 2000000 in
theorem r36In_any (VA : Option Addr) (VC : Nat) (vs : List Int) (v : Int) (w : World) (hv : SlI .i64 w.heap.size w VA vs) (hl : vs.length ≤ 1000000) :
    Calls Tryz.prog 33 #[.slice VA vs.length VC, .int .i64 v] w fun e w' => e = .returned (.tuple #[.int .i64 ((inF vs v).1 : Nat), .bool (inF vs v).2]) ∧ w' = w := by
  have HV := Lib.hid hv
  clear hv
  go_enter Tryz.func33, Tryz.ntmps33
  go_upto_region 2 with (fail)
  go_loopw [6] (fun c wx => ∃ k : Nat, k ≤ vs.length ∧ c = .int .i64 k ∧ (∀ u ∈ vs.take k, u ≠ v) ∧ wx = w) (fun c _ => vs.length - (intOf c).toNat)
  case atStart => exact ⟨0, Nat.zero_le _, rfl, fun r hr => (by simp at hr), rfl⟩
  case round =>
    obtain ⟨k, hk, rfl, hall, rfl⟩ := hrel
    have HALL := Lib.hid hall
    clear hall
    by_cases hkl : k < vs.length
    · have r0 : (0 : Int) ≤ (k : Int) := by omega
      have r1 : (k : Int) < (vs.length : Int) := by omega
      have r3 : IntKind.i64.wrap ((k : Int) + 1) = ((k + 1 : Nat) : Int) := by rw [IntWalk.i64_in _ (by omega)]; omega
      obtain ⟨b, o, rfl, hb, c0⟩ := slI_at HV.out hkl
      have HAT : Hid (vs[k] = v → inF vs v = (k, true)) := fun h => inF_at hkl h HALL.out
      have HN : Hid (vs[k] ≠ v → ∀ u ∈ vs.take (k + 1), u ≠ v) := fun h r hr => by
        rw [List.take_succ_eq_append_getElem hkl, List.mem_append] at hr
        rcases hr with hr | hr
        · exact HALL.out r hr
        · rw [List.mem_singleton.1 hr]; exact h
      generalize vs[k] = x at *
      by_cases he : x = v
      · have q : (x == v) = true := by simpa using he
        have HE := Lib.hid (HAT.out he)
        clear he HAT HN
        go_wp2
        go_ret2
        exact ⟨by rw [HE.out]; rfl, rfl⟩
      · have q : (x == v) = false := by simpa using he
        have HE := Lib.hid (HN.out he)
        clear he HAT HN
        go_wp2
        go_roundw
        case rel => exact ⟨k + 1, hkl, by go_num, HE.out, by first | rfl | trivial⟩
        case measure => simp [intOf]; omega
    · obtain rfl : k = vs.length := by omega
      have r1 : ¬ (vs.length : Int) < (vs.length : Int) := by omega
      have HE : Hid (inF vs v = (0, false)) := inF_no (by have h := HALL.out; rwa [List.take_length] at h)
      go_wp2
      go_ret2
      exact ⟨by rw [HE.out]; rfl, rfl⟩

def unionK (al : List At) (k : Nat) : List Nat := (List.range k).filter fun v => al.any fun a => decide (v ∈ a.vs)
theorem unionK_yes {al : List At} {k : Nat} (h : ∃ a ∈ al, k ∈ a.vs) : unionK al (k + 1) = unionK al k ++ [k] := by
  unfold unionK
  rw [List.range_succ, List.filter_append]
  have : (al.any fun a => decide (k ∈ a.vs)) = true := List.any_eq_true.2 (by obtain ⟨a, h1, h2⟩ := h; exact ⟨a, h1, decide_eq_true h2⟩)
  simp [this]
theorem unionK_no {al : List At} {k : Nat} (h : ∀ a ∈ al, k ∉ a.vs) : unionK al (k + 1) = unionK al k := by
  unfold unionK
  rw [List.range_succ, List.filter_append]
  have : (al.any fun a => decide (k ∈ a.vs)) = false := by
    rw [List.any_eq_false]
    intro a ha
    simpa using h a ha
  simp [this]
theorem unionK_len (al : List At) (k : Nat) : (unionK al k).length ≤ k := by
  unfold unionK
  exact Nat.le_trans (List.length_filter_le _ _) (by rw [List.length_range]; exact Nat.le_refl _)
def VarsPost (al : List At) (w : World) (e : Ending) (w' : World) : Prop := ∃ v, e = .returned v ∧ w'.ownsRow w.heap.size 3 1 v (unionV al).length ((unionV al).map fun i : Nat => Value.int .i64 (i : Nat)) ∧ Below w.heap.size w w'

set_option maxHeartbeats 8000000 in
theorem r36Vars_any (AA : Option Addr) (AC : Nat) (al : List At) (w : World) (hA : AtsR w.heap.size w AA (al.map At.ra)) (hl : al.length ≤ 1000000) (hg : ∀ a ∈ al, Gd a) :
    Calls Tryz.prog 32 #[.slice AA al.length AC] w (VarsPost al w) := by
  have HA := Lib.hid hA
  have HG := Lib.hid hg
  clear hA hg
  go_enter Tryz.func32, Tryz.ntmps32
  go_upto_region 3 with (fail)
  go_loopw [3, 4] (fun vo c wx => ∃ k : Nat, k ≤ 32 ∧ c = .int .i64 k ∧ wx.ownsRow w.heap.size 3 1 vo (unionK al k).length ((unionK al k).map fun i : Nat => Value.int .i64 (i : Nat)) ∧ Below w.heap.size w wx) (fun _ c _ => 32 - (intOf c).toNat)
  case atStart => exact ⟨0, Nat.zero_le _, rfl, own_nil _ _ _ _, Below.refl _ _⟩
  case round =>
    obtain ⟨k, hk, rfl, hown, hb⟩ := hrel
    have HO := Lib.hid hown
    have HB := Lib.hid hb
    clear hown hb
    by_cases hk32 : k < 32
    rotate_left
    · obtain rfl : k = 32 := by omega
      have HE : Hid (unionK al 32 = unionV al) := rfl
      rw [HE.out] at HO
      go_wp2_with fail
      go_ret
      exact ⟨_, rfl, HO.out, HB.out⟩
    have r1 : (k : Int) < 32 := by omega
    have r3 : IntKind.i64.wrap ((k : Int) + 1) = ((k + 1 : Nat) : Int) := by rw [IntWalk.i64_in _ (by omega)]; omega
    obtain ⟨wo, hwo⟩ : ∃ wo, wo = wr := ⟨_, rfl⟩
    subst hwo
    obtain ⟨vo, hvo⟩ : ∃ vo, vo = u3 := ⟨_, rfl⟩
    subst hvo
    go_wp2_with fail
    go_loopw [3, 5] (fun v3 c wx => ∃ i : Nat, i ≤ al.length ∧ c = .int .i64 i ∧ v3 = vo ∧ (∀ a ∈ al.take i, k ∉ a.vs) ∧ wx = wo) (fun _ c _ => al.length - (intOf c).toNat)
    case atStart => exact ⟨0, Nat.zero_le _, rfl, rfl, fun r hr => (by simp at hr), rfl⟩
    case round =>
      obtain ⟨i, hi, rfl, hv3, hno, rfl⟩ := hrel
      obtain rfl := hv3.symm
      have HNO := Lib.hid hno
      clear hno
      by_cases hil : i < al.length
      rotate_left
      · obtain rfl : i = al.length := by omega
        have q1 : ¬ (al.length : Int) < (al.length : Int) := by omega
        have HE : Hid (unionK al (k + 1) = unionK al k) := unionK_no (by have h := HNO.out; rwa [List.take_length] at h)
        go_wp2_with fail
        go_roundw
        case rel => exact ⟨k + 1, hk32, by go_num, by rw [HE.out]; exact HO.out, HB.out⟩
        case measure => simp [intOf]; omega
      have q0 : (0 : Int) ≤ (i : Int) := by omega
      have q1 : (i : Int) < (al.length : Int) := by omega
      have q3 : IntKind.i64.wrap ((i : Int) + 1) = ((i + 1 : Nat) : Int) := by rw [IntWalk.i64_in _ (by omega)]; omega
      obtain ⟨ab, ao, VA, VC, QA, QC, rfl, hab, a0, a1, -, -, -, -, av, -⟩ := atsR_at HA.out (i := i) (by rw [List.length_map]; exact hil)
      have HGK := Lib.hid (HG.out _ (List.getElem_mem hil))
      have HMK : Hid (al[i] ∈ al) := List.getElem_mem hil
      have HTK : Hid (al.take (i + 1) = al.take i ++ [al[i]]) := List.take_succ_eq_append_getElem hil
      simp only [List.getElem_map] at a0 a1 av
      have HVS : Hid (SlI .i64 w.heap.size w VA (al[i].vs.map Int.ofNat)) := av
      have hvl : al[i].ra.vs.length = al[i].vs.length := List.length_map ..
      rw [hvl] at a0
      clear av hvl a1
      generalize al[i] = a at *
      have a0 := (HB.out.cell (p := ⟨ab, ao + i * 2, none⟩) hab).trans a0
      have hab2 : ab < wr.heap.size := Nat.lt_of_lt_of_le hab HB.out.size
      have hul : a.vs.length ≤ 32 := HGK.out.vl
      have HIN := Lib.hid (r36In_any VA VC (a.vs.map Int.ofNat) (k : Int) wr ((Sl.below HVS.out HB.out (Nat.le_refl _)).more HB.out.size) (by rw [List.length_map]; omega))
      have hlm : (a.vs.map Int.ofNat).length = a.vs.length := List.length_map ..
      rw [hlm] at HIN
      go_wp2_with fail
      refine HIN.out.mono ?_
      rintro e w1 ⟨rfl, hw1⟩
      obtain rfl := hw1.symm
      rw [inF_nat]
      clear HIN hlm
      by_cases hm : k ∈ a.vs
      · have HE : Hid (unionK al (k + 1) = unionK al k ++ [k]) := unionK_yes ⟨a, HMK.out, hm⟩
        rw [if_pos hm]
        clear hm
        generalize a.vs.idxOf k = z at *
        have HLE : Hid ((unionK al k).length ≤ 1000) := Nat.le_trans (unionK_len al k) (by omega)
        generalize unionK al k = cs at *
        have HOA : Hid (∀ o : Obj, (wr.alloc o).ownsRow w.heap.size 3 1 vo cs.length (cs.map fun i : Nat => Value.int .i64 (i : Nat))) := fun o => own_keep HO.out ((Ext.refl wr).alloc o).below
        have HBZ : Hid (∀ o : Obj, w.heap.size ≤ (wr.alloc o).heap.size) := fun o => Nat.le_trans HB.out.size ((Ext.refl wr).alloc o).size
        have HRN := Lib.hid (Row.new wr 3 [.int .i64 (k : Nat)])
        go_wp2_with (at_builtin; go_loud (refine app1Int27 rfl (.tmp 29) (.tmp 31) rfl w.heap.size vo cs.length (cs.map fun i : Nat => Value.int .i64 (i : Nat)) rfl (HOA.out _) wr.heap.size (k : Int) rfl (HRN.out.cell 0) (by have := HLE.out; omega) (HBZ.out _) ?_)
                     intro v5 w5 hown hg
                     have HO5 := Lib.hid hown
                     have HB5 := Lib.hid (Below.grown (Below.then HB.out ((Ext.refl wr).alloc _).below HB.out.size) hg (by have := HB.out.size; simp; omega) (fun j hj => own_base HO.out hj))
                     clear hown hg)
        go_roundw
        case rel => exact ⟨k + 1, hk32, by go_num, by rw [HE.out, List.length_append, List.map_append]; exact HO5.out, HB5.out⟩
        case measure => simp [intOf]; omega
      · have HN : Hid (∀ b ∈ al.take (i + 1), k ∉ b.vs) := fun b hb => by
          rw [HTK.out, List.mem_append] at hb
          rcases hb with hb | hb
          · exact HNO.out b hb
          · rw [List.mem_singleton.1 hb]; exact hm
        rw [if_neg hm]
        clear hm
        go_wp2_with fail
        go_roundw
        case rel => exact ⟨i + 1, hil, by go_num, by first | rfl | trivial, HN.out, by first | rfl | trivial⟩
        case measure => simp [intOf]; omega
end
section
open Go.RowKit Go.Sort

structure Three (base : Nat) (w : World) (vo : Value) (no : Nat) (xo : List Value) (vm : Value) (nm : Nat) (xm : List Value) (va : Value) (na : Nat) (xa : List Value) (S : World → Prop) : Prop where
  out : w.ownsRow base 36 3 vo no xo
  ref : w.ownsRow base 45 2 vm nm xm
  ar : w.ownsRow base 3 1 va na xa
  om : ∀ b, vo.ownBlock = some b → vm.ownBlock ≠ some b
  oa : ∀ b, vo.ownBlock = some b → va.ownBlock ≠ some b
  ma : ∀ b, vm.ownBlock = some b → va.ownBlock ≠ some b
  el : Stab (fun b => vo.ownBlock = some b ∨ vm.ownBlock = some b ∨ va.ownBlock = some b) w S
theorem MadeI.three {base : Nat} {w : World} {Z : List (RA × HM)} {vo vm va : Value} (h : MadeI base w Z vo vm va) :
    Three base w vo Z.length (Z.flatMap outC) vm Z.length (Z.flatMap refC) va Z.length (Z.flatMap arC) fun w'' => ∀ z ∈ Z, ElR w.heap.size z w'' :=
  ⟨h.out, h.ref, h.ar, h.om, h.oa, h.ma, h.el⟩
section
variable {base : Nat} {w w' : World} {vo vm va : Value} {no nm na : Nat} {xo xm xa : List Value} {S T : World → Prop}
theorem Three.lt (h : Three base w vo no xo vm nm xm va na xa S) : ∀ b, (vo.ownBlock = some b ∨ vm.ownBlock = some b ∨ va.ownBlock = some b) → b < w.heap.size := fun b hb => by
  rcases hb with hb | hb | hb
  · exact own_lt h.out _ hb
  · exact own_lt h.ref _ hb
  · exact own_lt h.ar _ hb
theorem Three.up (h : Three base w vo no xo vm nm xm va na xa S) (hb : Below w.heap.size w w') : Three base w' vo no xo vm nm xm va na xa S :=
  ⟨own_keep h.out hb, own_keep h.ref hb, own_keep h.ar hb, h.om, h.oa, h.ma, h.el.up hb⟩
theorem Three.push (h : Three base w vo no xo vm nm xm va na xa S) (hb : Below w.heap.size w w')
    (hT : ∀ w'' : World, (∀ p : Addr, w.heap.size ≤ p.block → p.block < w'.heap.size → w''.cell? p = w'.cell? p) → T w'') : Three base w' vo no xo vm nm xm va na xa fun w'' => S w'' ∧ T w'' :=
  ⟨own_keep h.out hb, own_keep h.ref hb, own_keep h.ar hb, h.om, h.oa, h.ma, (h.el.up hb).and (Stab.of_from (lo := w.heap.size) (fun b hlo hf => absurd (h.lt b hf) (by omega)) hT)⟩
theorem Three.growO (h : Three base w vo no xo vm nm xm va na xa S) {vo' : Value} {no' : Nat} {xo' : List Value} (ho : w'.ownsRow base 36 3 vo' no' xo') (hg : w.grownBy w' vo.ownBlock) (hv : ∀ b, vo'.ownBlock = some b → vo.ownBlock = some b ∨ b = w.heap.size) :
    Three base w' vo' no' xo' vm nm xm va na xa S :=
  ⟨ho, own_grown h.ref hg fun k hk e => h.om k e.symm hk, own_grown h.ar hg fun k hk e => h.oa k e.symm hk,
   fun b hb hb' => (hv b hb).elim (fun e => h.om b e hb') fun e => by have := own_lt h.ref b hb'; omega,
   fun b hb hb' => (hv b hb).elim (fun e => h.oa b e hb') fun e => by have := own_lt h.ar b hb'; omega, h.ma,
   h.el.grow hg (fun b e => .inl e) fun b hlt hf => by
     rcases hf with hf | hf
     · exact .inl ((hv b hf).resolve_right (by omega))
     · exact .inr hf⟩
theorem Three.growM (h : Three base w vo no xo vm nm xm va na xa S) {vm' : Value} {nm' : Nat} {xm' : List Value} (ho : w'.ownsRow base 45 2 vm' nm' xm') (hg : w.grownBy w' vm.ownBlock) (hv : ∀ b, vm'.ownBlock = some b → vm.ownBlock = some b ∨ b = w.heap.size) :
    Three base w' vo no xo vm' nm' xm' va na xa S :=
  ⟨own_grown h.out hg fun k hk e => h.om k hk e.symm, ho, own_grown h.ar hg fun k hk e => h.ma k e.symm hk,
   fun b hb hb' => (hv b hb').elim (fun e => h.om b hb e) fun e => by have := own_lt h.out b hb; omega, h.oa,
   fun b hb hb' => (hv b hb).elim (fun e => h.ma b e hb') fun e => by have := own_lt h.ar b hb'; omega,
   h.el.grow hg (fun b e => .inr (.inl e)) fun b hlt hf => by
     rcases hf with hf | hf | hf
     · exact .inl hf
     · exact .inr (.inl ((hv b hf).resolve_right (by omega)))
     · exact .inr (.inr hf)⟩
theorem Three.growA (h : Three base w vo no xo vm nm xm va na xa S) {va' : Value} {na' : Nat} {xa' : List Value} (ho : w'.ownsRow base 3 1 va' na' xa') (hg : w.grownBy w' va.ownBlock) (hv : ∀ b, va'.ownBlock = some b → va.ownBlock = some b ∨ b = w.heap.size) :
    Three base w' vo no xo vm nm xm va' na' xa' S :=
  ⟨own_grown h.out hg fun k hk e => h.oa k hk e.symm, own_grown h.ref hg fun k hk e => h.ma k hk e.symm, ho, h.om,
   fun b hb hb' => (hv b hb').elim (fun e => h.oa b hb e) fun e => by have := own_lt h.out b hb; omega,
   fun b hb hb' => (hv b hb').elim (fun e => h.ma b hb e) fun e => by have := own_lt h.ref b hb; omega,
   h.el.grow hg (fun b e => .inr (.inr e)) fun b hlt hf => by
     rcases hf with hf | hf | hf
     · exact .inl hf
     · exact .inr (.inl hf)
     · exact .inr (.inr ((hv b hf).resolve_right (by omega)))⟩
end
theorem MadeI.step {base : Nat} {w : World} {vo vm va : Value} {Z : List (RA × HM)} {B1 B2 B3 B4 : Nat} {z : RA × HM} {n : Nat} (hn : n = Z.length + 1)
    (h : Three base w vo n (Z.flatMap outC ++ outC z) vm n (Z.flatMap refC ++ refC z) va n (Z.flatMap arC ++ arC z) fun w'' => ((∀ z ∈ Z, ElR B1 z w'') ∧ (SlI .i64 B2 w'' z.2.VA z.1.vs ∧ SlRs B3 w'' z.2.PA z.1.P)) ∧ SlRs B4 w'' z.2.QA z.1.P)
    (h1 : B1 ≤ w.heap.size) (h2 : B2 ≤ w.heap.size) (h3 : B3 ≤ w.heap.size) (h4 : B4 ≤ w.heap.size) (hk : ∀ z ∈ Z, HmOk z) (hz : HmOk z) : MadeI base w (Z ++ [z]) vo vm va := by
  subst hn
  have e1 : ∀ f : RA × HM → List Value, (Z ++ [z]).flatMap f = Z.flatMap f ++ f z := fun f => by rw [List.flatMap_append]; simp
  have el : (Z ++ [z]).length = Z.length + 1 := by simp
  refine ⟨by rw [el, e1]; exact h.out, by rw [el, e1]; exact h.ref, by rw [el, e1]; exact h.ar, h.om, h.oa, h.ma, h.el.imp fun w'' hs y hy => ?_, fun y hy => ?_⟩
  · rcases List.mem_append.1 hy with hy | hy
    · exact (hs.1.1 y hy).more h1
    · simp at hy; subst hy
      exact ⟨hs.1.2.1.more h2, hs.1.2.2.more h3, hs.2.more h4⟩
  · rcases List.mem_append.1 hy with hy | hy
    · exact hk y hy
    · simp at hy; subst hy; exact hz

theorem own_held {w : World} {base : Nat} {e : TypeId} {n : Nat} {xs : List Value} {A : Option Addr} {C : Nat} (h : w.ownsRow base e 1 (.slice A n C) n xs) :
    n ≤ C ∧ C ≤ 9223372036854775807 ∧ ∀ w'' : World, (∀ p : Addr, base ≤ p.block → p.block < w.heap.size → w''.cell? p = w.cell? p) → Sl w.heap.size w'' A xs := by
  obtain ⟨A', C', e', h1, h2, h3⟩ := own_slice h (by decide)
  injection e' with e1 _ e3
  subst e1 e3
  refine ⟨h1, h2, fun w'' hk hn => ?_⟩
  obtain ⟨b, rfl, hb, hc⟩ := h3 hn
  refine ⟨b, 0, rfl, hb, fun i u hu => ?_⟩
  rw [Nat.zero_add]
  exact (hk ⟨b, i, none⟩ (own_base h rfl) hb).trans (hc i u hu)
end
section
open Go.RowKit Go.Sort

def MadeP (w : World) (l : List LA) (e : Ending) (w' : World) : Prop :=
  ((∀ a ∈ l, a.Ok) → ∃ A1 C1 A2 C2 A3 C3, e = .returned (.tuple #[.slice A1 l.length C1, .slice A2 l.length C2, .slice A3 l.length C3, .bool (decide (l.length ≤ 6))]) ∧ l.length ≤ C1 ∧ C1 ≤ 9223372036854775807 ∧ l.length ≤ C2 ∧ C2 ≤ 9223372036854775807 ∧ l.length ≤ C3 ∧ C3 ≤ 9223372036854775807 ∧ AtsM w'.heap.size w' A1 (l.map LA.ra) ∧ AtsR w'.heap.size w' A2 (l.map LA.ra) ∧ SlI .i64 w'.heap.size w' A3 (l.map fun a => (a.d : Int))) ∧
  ((¬ ∀ a ∈ l, a.Ok) → e = .returned (.tuple #[.slice none 0 0, .slice none 0 0, .slice none 0 0, .bool false])) ∧ Below w.heap.size w w'
def MadeS (w : World) (l : List LA) (vo vm va c : Value) (wr : World) : Prop :=
  ∃ i : Nat, i ≤ l.length ∧ c = .int .i64 i ∧ (∀ a ∈ l.take i, a.Ok) ∧ (∃ Z : List (RA × HM), Z.map Prod.fst = (l.take i).map LA.ra ∧ MadeI w.heap.size wr Z vo vm va) ∧ Below w.heap.size w wr
theorem bit_eq (v k : Nat) : ((v : Int) / 2 ^ k).tmod 2 = ((v / 2 ^ k % 2 : Nat) : Int) := by
  have h : (v : Int) / 2 ^ k = ((v / 2 ^ k : Nat) : Int) := by
    rw [Int.natCast_ediv, Int.natCast_pow]
    rfl
  rw [h]
  rfl
theorem valI_valid (n : Nat) : RL.validV (valI n) = true := by
  unfold valI RL.validV
  have : (ByteArray.mk #[]).size = 0 := rfl
  simp [this]
theorem rowI_wrong (n : Nat) (t : List Nat) : wrongF n (rowI n t) = 0 := by
  unfold wrongF
  rw [rowI_len, if_neg (by simp), if_pos]
  unfold rowI
  rw [List.all_eq_true]
  intro v hv
  obtain ⟨k, _, rfl⟩ := List.mem_map.1 hv
  exact valI_valid _
theorem rowsI_err (n : Nat) (X : List (List Nat)) : errF n (X.map (rowI n)) = 0 := errF_zero.2 fun x hx => by
  obtain ⟨t, _, rfl⟩ := List.mem_map.1 hx
  exact rowI_wrong n t
theorem rowsI_ok {n : Nat} (hn : n ≤ 1000000) (X : List (List Nat)) : RsOk (X.map (rowI n)) := fun x hx => by
  obtain ⟨t, _, rfl⟩ := List.mem_map.1 hx
  refine ⟨by rw [rowI_len]; exact hn, fun v hv => ?_⟩
  unfold rowI at hv
  obtain ⟨k, _, rfl⟩ := List.mem_map.1 hv
  exact Nat.zero_le _
theorem ints_len (l : List Nat) : (ints l).length = l.length := by unfold ints; rw [List.length_map]
theorem own_one (w : World) (base : Nat) (T : TypeId) (u : Value) (hb : base ≤ w.heap.size) : (w.alloc (.cells #[u] T)).ownsRow base T 1 (.slice (some ⟨w.heap.size, 0, none⟩) 1 1) 1 [u] :=
  ⟨rfl, .inr ⟨w.heap.size, 1, #[u], rfl, hb, Row.new w T [u], Nat.le_refl _, by simp [maxLen], rfl, rfl⟩⟩
theorem appIs {w : World} {ops : Array Oper} {rest : List Oper} {o : Oper} {a : Act} {Q : Exit → Act → World → Prop} (hgd : o.guard = none) (s x : Operand)
    (ho : o.op = .call { callee := .builtin .append, args := #[s, x], argTypes := #[27, 27] })
    (base : Nat) (v : Value) (n : Nat) (xs : List Value) (hs0 : a.eval s = v) (hown : w.ownsRow base 3 1 v n xs)
    (A : Option Addr) (m C : Nat) (z : List Int) (hm : z.length = m) (hx : a.eval x = .slice A m C) (hz : SlI .i64 w.heap.size w A z)
    (hn : n + m ≤ 1000000) (hbase : base ≤ w.heap.size)
    (h : ∀ v' w', w'.ownsRow base 3 1 v' (n + m) (xs ++ z.map (Value.int .i64)) → w.grownBy w' v.ownBlock → wpList Tryz.prog ops Q rest (a.put o.dst v') w') : wpList Tryz.prog ops Q (o :: rest) a w := by
  subst hm
  obtain ⟨i0, hi0, hz0, hz1, hz2⟩ := info_parts intInfo
  have hcell : ∀ ad, A = some ad → ∀ j u, (z.map (Value.int .i64))[j]? = some u → w.cell? (ad.add j) = some u := fun ad e j u hu => by
    obtain ⟨b, o, e', hb, hc⟩ := hz (by intro h0; rw [h0] at hu; simp at hu)
    rw [e] at e'
    injection e' with e'
    subst e'
    rw [Addr.add_lit]
    exact hc j u hu
  refine wpList_plain hgd fun K hK => ?_
  rcases A with _ | ad
  · have hy : z = [] := by
      refine Classical.byContradiction fun hne => ?_
      obtain ⟨b, o, e', hb, hc⟩ := hz (by simpa using hne)
      cases e'
    subst hy
    have hrun := run_append_none (P := Tryz.prog) w base 27 o.type 3 i0 1 Tryz.underlying27 hi0 v n xs hown C
    unfold Oper.wp execOp
    simp only [List.length_nil] at hx
    simp only [ho, resolve, invoke, builtin, Sem.run_bind, Sem.run_pure, Result.andThen_ok, List.map_toArray, List.map_cons, List.map_nil, hs0, hx, hrun]
    exact hK _ _ (h v w (by rw [List.map_nil, List.append_nil]; exact hown) ⟨rfl, rfl, rfl, Nat.le_refl _, fun _ _ _ => rfl⟩)
  · obtain ⟨v', w', hrun, k2, k3, _, k5⟩ := run_append_own_at (P := Tryz.prog) w base 27 o.type 3 i0 _ 1 8 Tryz.underlying27 hi0 hz0 hz1 hz2 rfl (by decide) v n xs hown ad z.length C (z.map (Value.int .i64)) (by simp) (hcell ad rfl) (by simp [Value.oneCell']) (by simp only [maxLen]; omega) (by omega) hbase
    unfold Oper.wp execOp
    simp only [ho, resolve, invoke, builtin, Sem.run_bind, Sem.run_pure, Result.andThen_ok, List.map_toArray, List.map_cons, List.map_nil, hs0, hx, hrun]
    exact hK _ _ (h v' w' k2 k3)
theorem grown_alloc {w w' : World} {o : Obj} {row : Option Nat} (h : (w.alloc o).grownBy w' row) : w.grownBy w' row := grown_trans (((Ext.refl w).alloc o).grown row) h
theorem MadeP.bad {w w' : World} {l : List LA} {a : LA} (ha : a ∈ l) (hn : ¬ a.Ok) (hb : Below w.heap.size w w') : MadeP w l (.returned (.tuple #[.slice none 0 0, .slice none 0 0, .slice none 0 0, .bool false])) w' :=
  ⟨fun h => absurd (h a ha) hn, fun _ => rfl, hb⟩

set_option maxHeartbeats 8000000 in
theorem l35Made_any (A : Option Addr) (C : Nat) (l : List LA) (w : World) (hA : AtsL w.heap.size w A l) (hB : LBytes l) (hl : l.length ≤ 3518437208780) :
    Calls Tryz.prog 7 #[.slice A l.length C] w (MadeP w l) := by
  have HA := Lib.hid hA
  have HBY := Lib.hid hB
  have HBAD := Lib.hid (fun (a : LA) (ha : a ∈ l) (hn : ¬ a.Ok) (w' : World) (hb : Below w.heap.size w w') => MadeP.bad ha hn hb)
  clear hA hB
  go_enter Tryz.func7, Tryz.ntmps7
  go_wp2
  go_loopw [6, 7, 8, 23] (MadeS w l) (fun _ _ _ c _ => l.length - (intOf c).toNat)
  case atStart => exact ⟨0, Nat.zero_le _, rfl, fun a ha => by simp at ha, ⟨[], rfl, MadeI.nil _ _⟩, Below.refl _ _⟩
  case round =>
    obtain ⟨i, hi, rfl, hall, ⟨Z, hZ, hM⟩, hb⟩ := hrel
    have HALL := Lib.hid hall
    have HZ := Lib.hid hZ
    have HM := Lib.hid hM
    have HB := Lib.hid hb
    have hzb := hb.size
    have HZL : Hid (Z.length = i) := by
      have := congrArg List.length hZ
      rw [List.length_map, List.length_map, List.length_take, Nat.min_eq_left hi] at this
      exact this
    clear hall hZ hM hb
    by_cases h1 : i < l.length
    rotate_left
    · obtain rfl : i = l.length := by omega
      obtain ⟨A1, C1, A2, C2, A3, C3, e1, e2, e3, c1, d1, c2, d2, c3, d3, ha, hr, hz⟩ := HM.out.fin
      have hT : l.take l.length = l := List.take_length
      have HZ2 := HZ.out
      have HALL2 := HALL.out
      rw [hT] at HZ2 HALL2
      rw [HZL.out] at e1 e2 e3 c1 c2 c3
      rw [HZ2] at ha hr
      have hz2 : SlI .i64 wr.heap.size wr A3 (l.map fun a => (a.d : Int)) := by
        have e : (Z.map fun z => z.1.ar) = l.map fun a => (a.d : Int) := by
          have := congrArg (List.map RA.ar) HZ2
          rw [List.map_map, List.map_map] at this
          exact this
        rw [← e]
        exact hz
      subst e1 e2 e3
      obtain ⟨b6, hb6, hb7⟩ : ∃ b : Bool, decide ((l.length : Int) ≤ 6) = b ∧ b = decide (l.length ≤ 6) := ⟨_, decide_eq_decide.2 (by omega), rfl⟩
      have HP : Hid (MadeP w l (.returned (.tuple #[.slice A1 l.length C1, .slice A2 l.length C2, .slice A3 l.length C3, .bool b6])) wr) := ⟨fun _ => ⟨A1, C1, A2, C2, A3, C3, by rw [hb7], c1, d1, c2, d2, c3, d3, ha, hr, hz2⟩, fun h => absurd HALL2 h, HB.out⟩
      clear HA HBY HBAD HALL HZ HM HB HZL HZ2 HALL2 hz2 ha hr hz hb7 hT c1 d1 c2 d2 c3 d3
      go_wp2
      exact bodyPost_ret (v := .tuple #[.slice A1 l.length C1, .slice A2 l.length C2, .slice A3 l.length C3, .bool b6]) (by simp [results, Tryz.results7, go_sem]) rfl HP.out
    obtain ⟨ab, ao, RA, RC, rfl, hab, c0, c1, c2, q⟩ := atsL_at HA.out h1
    have c0 := (HB.out.cell (p := ⟨ab, ao + i * 3, none⟩) hab).trans c0
    have c1 := (HB.out.cell (p := ⟨ab, ao + i * 3 + 1, none⟩) hab).trans c1
    have c2 := (HB.out.cell (p := ⟨ab, ao + i * 3 + 2, none⟩) hab).trans c2
    have hab2 := Nat.lt_of_lt_of_le hab hzb
    have HQ := Lib.hid q
    have HBY1 := Lib.hid (HBY.out _ (List.getElem_mem h1))
    have HMEM : Hid (l[i] ∈ l) := List.getElem_mem h1
    have HTK : Hid (l.take (i + 1) = l.take i ++ [l[i]]) := List.take_succ_eq_append_getElem h1
    have g1 : (0 : Int) ≤ (i : Int) := by omega
    have g2 : (i : Int) < (l.length : Int) := by omega
    have hw1 : IntKind.i64.wrap ((i : Int) + 1) = ((i + 1 : Nat) : Int) := by rw [IntWalk.i64_in _ (by omega)]; omega
    generalize l[i] = a at *
    clear q
    obtain ⟨wo, hwo⟩ : ∃ wo, wo = wr := ⟨_, rfl⟩
    subst hwo
    obtain ⟨W1, hW1⟩ : ∃ W1, W1 = wo.alloc (.cells #[.int .u8 (a.v : Nat), .slice RA a.R.length RC, .int .u8 (a.b : Nat)] 24) := ⟨_, rfl⟩
    have hr1 : Row W1 wo.heap.size 24 [.int .u8 (a.v : Nat), .slice RA a.R.length RC, .int .u8 (a.b : Nat)] := by rw [hW1]; exact Row.new wo 24 _
    have hx1 : Ext wo W1 := by rw [hW1]; exact (Ext.refl wo).alloc _
    have HR1 := Lib.hid hr1
    have HX1 := Lib.hid hx1
    clear hr1 hx1
    go_wp2_with fail
    rw [← hW1]
    clear hW1 c0 c1 c2
    go_loopw [11, 27] (fun v c wx => ∃ k : Nat, k ≤ 8 ∧ c = .int .i64 k ∧ wx.ownsRow W1.heap.size 3 1 v (varsK a.v k).length ((ints (varsK a.v k)).map (Value.int .i64)) ∧ Below W1.heap.size W1 wx) (fun _ c _ => 8 - (intOf c).toNat)
    case atStart => exact ⟨0, Nat.zero_le _, rfl, own_nil _ _ _ _, Below.refl _ _⟩
    case round =>
      obtain ⟨k, hk, rfl, hown, hb⟩ := hrel
      have HO := Lib.hid hown
      have HBK := Lib.hid hb
      have hzk := hb.size
      have hr2 := HR1.out.up hb
      have HR2 := Lib.hid hr2
      have b0 : wr.cell? ⟨wo.heap.size, 0, none⟩ = some (.int .u8 (a.v : Nat)) := hr2.cell 0
      have b1 : wr.cell? ⟨wo.heap.size, 1, none⟩ = some (.slice RA a.R.length RC) := hr2.cell 1
      have b2 : wr.cell? ⟨wo.heap.size, 2, none⟩ = some (.int .u8 (a.b : Nat)) := hr2.cell 2
      have hbz := hr2.lt
      clear hown hb hr2
      by_cases h2 : k < 8
      · have hwk : IntKind.i64.wrap ((k : Int) + 1) = ((k + 1 : Nat) : Int) := by rw [IntWalk.i64_in _ (by omega)]; omega
        have HVS := Lib.hid (varsK_succ a.v k)
        by_cases hbt : a.v / 2 ^ k % 2 = 1
        · have hbit : (((a.v : Int) / 2 ^ k).tmod 2 == 1) = true := by rw [bit_eq, hbt]; rfl
          have HV2 := Lib.hid (HVS.out.trans (if_pos hbt))
          have hkl := varsK_len a.v k
          obtain ⟨VA, VC, rfl, -, -, -⟩ := own_slice HO.out (by decide)
          clear hbt HVS
          go_wp2_with
            (at_builtin; refine app1Int rfl (.tmp 36) (.tmp 38) rfl W1.heap.size (.slice VA (varsK a.v k).length VC) (varsK a.v k).length ((ints (varsK a.v k)).map (Value.int .i64)) rfl (HO.out.alloc _) wr.heap.size [.int .i64 (k : Nat)] rfl (Row.new wr 3 [.int .i64 (k : Nat)]) rfl (by simp [Value.oneCell']) (by omega) (by simp; omega) ?_
             intro v' w6 hown6 hg6 hat6
             obtain ⟨A6, C6, rfl, -, -, -⟩ := own_slice hown6 (by decide)
             have HO6 : Hid (w6.ownsRow W1.heap.size 3 1 (.slice A6 ((varsK a.v k).length + 1) C6) (varsK a.v (k + 1)).length ((ints (varsK a.v (k + 1))).map (Value.int .i64))) := by
               rw [HV2.out, List.length_append]
               unfold ints at hown6 ⊢
               rw [List.map_append, List.map_append]
               exact hown6
             have HB6 : Hid (Below W1.heap.size W1 w6) := HBK.out.trans (app_kept (fun b hb => own_base HO.out hb) hzk hg6)
             clear hown6 hg6 hat6)
          go_roundw
          case rel => exact ⟨k + 1, h2, by go_num, HO6.out, HB6.out⟩
          case measure => simp [intOf]; omega
        · have hbit : (((a.v : Int) / 2 ^ k).tmod 2 == 1) = false := by
            rw [bit_eq]
            have : ((a.v / 2 ^ k % 2 : Nat) : Int) ≠ 1 := by omega
            simpa using this
          have HV2 := Lib.hid (HVS.out.trans (if_neg hbt))
          clear hbt HVS
          go_wp2
          go_roundw
          case rel => exact ⟨k + 1, h2, by go_num, by rw [HV2.out]; exact HO.out, HBK.out⟩
          case measure => simp [intOf]; omega
      · have HO2 : Hid (wr.ownsRow W1.heap.size 3 1 u11 a.d ((ints a.ks).map (Value.int .i64))) := by
          have h := HO.out
          rw [show k = 8 by omega] at h
          exact h
        obtain ⟨k8, hk8⟩ : ∃ k8, k8 = k := ⟨_, rfl⟩
        subst hk8
        obtain ⟨VA, VC, rfl, -, -, -⟩ := own_slice HO2.out (by decide)
        have hd8 := a.d_le
        have HBW := Lib.hid (Below.then (Below.then HB.out HX1.out.below hzb) HBK.out (by have := HX1.out.size; omega))
        have HBO := Lib.hid (Below.then HX1.out.below HBK.out HX1.out.size)
        clear HO
        by_cases hd4 : 4 < a.d
        · have hdd : decide ((4 : Int) < (a.d : Int)) = true := decide_eq_true (by omega)
          have HNO : Hid (¬ a.Ok) := fun h => by have := h.1; omega
          go_wp2
          exact bodyPost_ret (v := .tuple #[.slice none 0 0, .slice none 0 0, .slice none 0 0, .bool false]) (by simp [results, Tryz.results7, go_sem]) rfl (HBAD.out a HMEM.out HNO.out _ HBW.out)
        have hdd : decide ((4 : Int) < (a.d : Int)) = false := decide_eq_false (by omega)
        by_cases hR : 12 < a.R.length
        · have hdd2 : decide ((12 : Int) < (a.R.length : Int)) = true := decide_eq_true (by omega)
          have HNO : Hid (¬ a.Ok) := fun h => by have := h.2; omega
          go_wp2
          exact bodyPost_ret (v := .tuple #[.slice none 0 0, .slice none 0 0, .slice none 0 0, .bool false]) (by simp [results, Tryz.results7, go_sem]) rfl (HBAD.out a HMEM.out HNO.out _ HBW.out)
        have hdd2 : decide ((12 : Int) < (a.R.length : Int)) = false := decide_eq_false (by omega)
        have HOK : Hid a.Ok := ⟨by omega, by omega⟩
        obtain ⟨wv, hwv⟩ : ∃ wv, wv = wr := ⟨_, rfl⟩
        subst hwv
        have hzv := HBW.out.size
        go_wp2_with fail
        go_loopw [13, 53] (fun v c wx => ∃ j : Nat, j ≤ a.R.length ∧ c = .int .i64 j ∧ OwnRs wx wv.heap.size 69 v ((a.R.take j).map (rowI a.d)) ∧ Below wv.heap.size wv wx) (fun _ c _ => a.R.length - (intOf c).toNat)
        case atStart => exact ⟨0, Nat.zero_le _, rfl, OwnRs.nil _ _ _, Below.refl _ _⟩
        case round =>
          obtain ⟨j, hj, rfl, hrs, hbj⟩ := hrel
          have HRS := Lib.hid hrs
          have HBJ := Lib.hid hbj
          have hzj := hbj.size
          clear hrs hbj b0 b1 b2
          by_cases h3 : j < a.R.length
          · obtain ⟨qb, qo, rfl, hqb, hqc⟩ := HQ.out (by intro h0; rw [h0] at h3; simp at h3)
            have HBWJ := Lib.hid (Below.then HBW.out HBJ.out hzv)
            have d0 := (HBWJ.out.cell (p := ⟨qb, qo + j * 4 + 0, none⟩) hqb).trans (hqc j h3 0 (by omega))
            have d1 := (HBWJ.out.cell (p := ⟨qb, qo + j * 4 + 1, none⟩) hqb).trans (hqc j h3 1 (by omega))
            have d2 := (HBWJ.out.cell (p := ⟨qb, qo + j * 4 + 2, none⟩) hqb).trans (hqc j h3 2 (by omega))
            have d3 := (HBWJ.out.cell (p := ⟨qb, qo + j * 4 + 3, none⟩) hqb).trans (hqc j h3 3 (by omega))
            rw [Nat.add_zero] at d0
            have hqb2 := Nat.lt_of_lt_of_le hqb HBWJ.out.size
            have g3 : (0 : Int) ≤ (j : Int) := by omega
            have g4 : (j : Int) < (a.R.length : Int) := by omega
            have hwj : IntKind.i64.wrap ((j : Int) + 1) = ((j + 1 : Nat) : Int) := by rw [IntWalk.i64_in _ (by omega)]; omega
            have HTJ : Hid ((a.R.take (j + 1)).map (rowI a.d) = (a.R.take j).map (rowI a.d) ++ [rowI a.d a.R[j]]) := map_snoc _ _ _ h3
            clear hqc
            generalize a.R[j] = t at *
            obtain ⟨wj, hwj2⟩ : ∃ wj, wj = wr := ⟨_, rfl⟩
            subst hwj2
            have HYC : ∃ y0 y1 y2 y3 : Nat, y0 = t.getD 0 0 ∧ y1 = t.getD 1 0 ∧ y2 = t.getD 2 0 ∧ y3 = t.getD 3 0 := ⟨_, _, _, _, rfl, rfl, rfl, rfl⟩
            obtain ⟨y0, y1, y2, y3, e0, e1, e2, e3⟩ := HYC
            have HYK : Hid (∀ k, k < 4 → [Value.int .u8 (y0 : Nat), .int .u8 (y1 : Nat), .int .u8 (y2 : Nat), .int .u8 (y3 : Nat)][k]? = some (.int .u8 (t.getD k 0 : Nat))) := fun k hk => by
              match k, hk with
              | 0, _ => rw [e0]; rfl
              | 1, _ => rw [e1]; rfl
              | 2, _ => rw [e2]; rfl
              | 3, _ => rw [e3]; rfl
            rw [← e0] at d0
            rw [← e1] at d1
            rw [← e2] at d2
            rw [← e3] at d3
            clear e0 e1 e2 e3
            obtain ⟨W3, hW3⟩ : ∃ W3, W3 = wj.alloc (.cells #[.int .u8 (y0 : Nat), .int .u8 (y1 : Nat), .int .u8 (y2 : Nat), .int .u8 (y3 : Nat)] 67) := ⟨_, rfl⟩
            have hr3 : Row W3 wj.heap.size 67 [.int .u8 (y0 : Nat), .int .u8 (y1 : Nat), .int .u8 (y2 : Nat), .int .u8 (y3 : Nat)] := by rw [hW3]; exact Row.new wj 67 _
            have hx3 : Ext wj W3 := by rw [hW3]; exact (Ext.refl wj).alloc _
            have HR3 := Lib.hid hr3
            have HX3 := Lib.hid hx3
            have HZ3 : Hid (W3.heap.size = wj.heap.size + 1) := by show _ = _; rw [hW3]; simp
            clear hr3 hx3
            go_wp2_with fail
            rw [← hW3]
            clear hW3 d0 d1 d2 d3
            obtain ⟨W4, hW4⟩ : ∃ W4, W4 = W3.alloc (.cells #[] 71) := ⟨_, rfl⟩
            have HX4 : Hid (Ext W3 W4) := by rw [hW4]; exact (Ext.refl W3).alloc _
            have HE4 : Hid (W4.ownsRow W3.heap.size 71 3 (.slice (some ⟨W3.heap.size, 0, none⟩) 0 0) (rowI 0 t).length (rcells (rowI 0 t))) := by rw [hW4]; exact own_empty W3 _ _ _ (Nat.le_refl _)
            rw [← hW4]
            clear hW4
            go_loopw [16, 60] (fun v c wx => ∃ k : Nat, k ≤ a.d ∧ c = .int .i64 k ∧ wx.ownsRow W3.heap.size 71 3 v (rowI k t).length (rcells (rowI k t)) ∧ Below W3.heap.size W3 wx) (fun _ c _ => a.d - (intOf c).toNat)
            case atStart => exact ⟨0, Nat.zero_le _, rfl, by rw [← HZ3.out]; exact HE4.out, HX4.out.below⟩
            case round =>
              obtain ⟨k, hk, rfl, hown, hbk⟩ := hrel
              have HOK2 := Lib.hid hown
              have HBK2 := Lib.hid hbk
              have hzk2 := hbk.size
              have HKL := Lib.hid (rowI_len k t)
              obtain ⟨-, A5, C5, rfl, hc5, hm5, hs5, hf5⟩ := SlR.of_own hown
              have HF5 := Lib.hid (And.intro hc5 (And.intro hm5 (And.intro hs5 hf5)))
              have hr5 := HR3.out.up hbk
              have hb5z := hr5.lt
              clear hown hbk hc5 hm5 hs5 hf5
              by_cases h4 : k < a.d
              · have hck := (hr5.cell k).trans (HYK.out k (by omega))
                have g5 : (0 : Int) ≤ (k : Int) := by omega
                have g6 : (k : Int) < 4 := by omega
                have hwk2 : IntKind.i64.wrap ((k : Int) + 1) = ((k + 1 : Nat) : Int) := by rw [IntWalk.i64_in _ (by omega)]; omega
                have HSU := Lib.hid (rowI_succ k t)
                generalize t.getD k 0 = x at hck HSU
                clear hr5
                go_wp2_with
                  (at_builtin
                   refine app1V rfl (.tmp 63) (.tmp 70) rfl W3.heap.size (.slice A5 (rowI k t).length C5) (rowI k t) rfl (HOK2.out.alloc _) wr.heap.size (valI x) rfl ((Row.new wr 71 [.int .i64 1, .int .i64 ((x : Int) % 4), .string ⟨#[]⟩]).cell 0) ((Row.new wr 71 [.int .i64 1, .int .i64 ((x : Int) % 4), .string ⟨#[]⟩]).cell 1) ((Row.new wr 71 [.int .i64 1, .int .i64 ((x : Int) % 4), .string ⟨#[]⟩]).cell 2) (by have := HKL.out; omega) (by simp; omega) ?_
                   intro v' w6 hown6 hg6
                   rw [← HSU.out] at hown6
                   obtain ⟨-, A6, C6, rfl, -, -, -, -⟩ := SlR.of_own hown6
                   have HO6 := Lib.hid hown6
                   have HB6 : Hid (Below W3.heap.size W3 w6) := HBK2.out.trans (app_kept (fun b hb => own_base HOK2.out hb) hzk2 hg6)
                   clear hown6 hg6)
                go_wp2
                go_roundw
                case rel => exact ⟨k + 1, h4, by go_num, HO6.out, HB6.out⟩
                case measure => simp [intOf]; omega
              · obtain rfl : k = a.d := by omega
                clear hr5
                have HB5 := Lib.hid (Below.then HX3.out.below HBK2.out HX3.out.size)
                have HRS5 := Lib.hid ((HRS.out.keep HB5.out).keep ((Below.refl _ _).alloc (Nat.le_refl _) (.cells #[.slice A5 (rowI a.d t).length C5] 69)))
                have hz5 := HB5.out.size
                have HLT := Lib.hid (fun g hg => (own_lt (HRS.out).choose_spec.1 g hg))
                have HSL := Lib.hid (HF5.out.2.2.1.alloc1 (.cells #[.slice A5 (rowI a.d t).length C5] 69))
                have HLJ : Hid (((a.R.take j).map (rowI a.d)).length ≤ 12) := by
                  show _ ≤ _
                  rw [List.length_map, List.length_take]; omega
                go_wp2_with
                  (at_builtin
                   refine app1Row rfl (.tmp 73) (.tmp 75) rfl wv.heap.size u13 ((a.R.take j).map (rowI a.d)) rfl HRS5.out wr.heap.size A5 C5 (rowI a.d t) rfl (by go_simp) HSL.out HF5.out.1 HF5.out.2.1 (fun _ ad e e2 => by have h3 := HF5.out.2.2.2 ad e; have h4 := HLT.out _ e2; have := HZ3.out; omega) (by have := HLJ.out; omega) (by simp; omega) ?_
                   intro v' w7 hown7 hg7
                   rw [← HTJ.out] at hown7
                   have HO7 := Lib.hid hown7
                   have HB7 := Lib.hid (((Below.then HBJ.out HB5.out hzj).alloc (by omega) (.cells #[.slice A5 (rowI a.d t).length C5] 69)).grown hg7 (by simp; omega) HRS5.out.base)
                   clear hown7 hg7)
                go_wp2
                go_roundw
                case rel => exact ⟨j + 1, h3, by go_num, HO7.out, HB7.out⟩
                case measure => simp [intOf]; omega
          · have hrs := HRS.out
            rw [List.take_of_length_le (by omega)] at hrs
            obtain ⟨SA, SC, rfl, hsc, hsm, hss⟩ := hrs.sl
            have HWR := Lib.hid (Below.then HBW.out HBJ.out hzv)
            have hof := rlOf_any (a.d : Int) SA SC (a.R.map (rowI a.d)) wr (by omega) (by omega) hss (rowsI_ok (by omega) a.R) (by rw [List.length_map]; omega)
            rw [List.length_map] at hof ⊢
            have HOF := Lib.hid hof
            have HERR := Lib.hid (rowsI_err a.d a.R)
            have HOJ := Lib.hid (own_keep HO2.out HBJ.out)
            have hvlt := fun g hg => (own_lt HO2.out g hg)
            have HVLT := Lib.hid hvlt
            have hr2 := HR2.out.up HBJ.out
            have HR3 := Lib.hid hr2
            have b0 : wr.cell? ⟨wo.heap.size, 0, none⟩ = some (.int .u8 (a.v : Nat)) := hr2.cell 0
            have b1 : wr.cell? ⟨wo.heap.size, 1, none⟩ = some (.slice RA a.R.length RC) := hr2.cell 1
            have b2 : wr.cell? ⟨wo.heap.size, 2, none⟩ = some (.int .u8 (a.b : Nat)) := hr2.cell 2
            have hbz2 := hr2.lt
            clear hrs hsc hsm hss hof hvlt hr2 HRS
            go_wp2_with fail
            refine HOF.out.mono ?_
            rintro e w5 ⟨h1, -, hb5⟩
            obtain ⟨rv, rfl, PA, PC, rfl, hpc, hpm, hfr⟩ := h1 HERR.out
            have HFR : Hid (FreshRs wr.heap.size w5 PA a.rows) := hfr
            have HPC : Hid (a.rows.length ≤ PC ∧ PC ≤ 9223372036854775807) := ⟨hpc, hpm⟩
            have HPL : Hid ((RL.ofF (a.R.map (rowI a.d))).length = a.rows.length) := rfl
            rw [HPL.out]
            have HB5 := Lib.hid hb5
            have hz5 := hb5.size
            have hr5 := HR3.out.up hb5
            have HR5 := Lib.hid hr5
            clear h1 hpc hpm hfr hb5 HOF HERR HPL b0 b1 b2
            obtain ⟨W6, hW6⟩ : ∃ W6, W6 = w5.alloc (.cells #[.int .i64 (a.d : Nat), .slice PA a.rows.length PC] 34) := ⟨_, rfl⟩
            have hr6 : Row W6 w5.heap.size 34 [.int .i64 (a.d : Nat), .slice PA a.rows.length PC] := by rw [hW6]; exact Row.new w5 34 _
            have hx6 : Ext w5 W6 := by rw [hW6]; exact (Ext.refl w5).alloc _
            have hr56 := hr5.up hx6.below
            have b0 : W6.cell? ⟨wo.heap.size, 0, none⟩ = some (.int .u8 (a.v : Nat)) := hr56.cell 0
            have b1 : W6.cell? ⟨wo.heap.size, 1, none⟩ = some (.slice RA a.R.length RC) := hr56.cell 1
            have b2 : W6.cell? ⟨wo.heap.size, 2, none⟩ = some (.int .u8 (a.b : Nat)) := hr56.cell 2
            have hbz6 := hr56.lt
            have HR6 := Lib.hid hr6
            have HX6 := Lib.hid hx6
            have HO6 := Lib.hid (own_keep (own_keep HOJ.out HB5.out) hx6.below)
            have hz6 := hx6.size
            have HP5 : Hid (FreshRs wr.heap.size w5 PA a.rows) := HFR.out
            have HBO6 := Lib.hid (Below.then (Below.then (Below.then HBO.out HBJ.out (by have := HX1.out.size; have := HBK.out.size; omega)) HB5.out (by have := HX1.out.size; have := HBK.out.size; omega)) hx6.below (by have := HX1.out.size; have := HBK.out.size; omega))
            clear hr5 hr6 hx6 hr56
            go_upto_region 32 with (fail)
            rw [← hW6]
            clear hW6
            go_upto_block 8 with (fail)
            go_cut [11] from 91 to 105 (fun v wx => ∃ VB VD, v = .slice VB (badV a.b (ints a.ks)).length VD ∧ wx.ownsRow W1.heap.size 3 1 v (badV a.b (ints a.ks)).length ((badV a.b (ints a.ks)).map (Value.int .i64)) ∧ W6.grownBy wx (Value.slice VA a.d VC).ownBlock)
            case first =>
              have HLD : Hid ((ints a.ks).length = a.d) := ints_len a.ks
              have hnn : a.d ≤ 8 := hd8
              by_cases hb0 : a.b = 0
              · have hq0 : ((a.b : Int) == 0) = true := by rw [hb0]; rfl
                have HBV : Hid (badV a.b (ints a.ks) = ints a.ks) := by show _ = _; unfold badV; rw [if_pos hb0]
                clear hb0
                go_wp2_with fail
                go_meet
                case rel =>
                  rw [HBV.out, HLD.out]
                  exact ⟨VA, VC, rfl, HO6.out, ⟨rfl, rfl, rfl, Nat.le_refl _, fun _ _ _ => rfl⟩⟩
              have hq0 : ((a.b : Int) == 0) = false := by
                have : (a.b : Int) ≠ 0 := by omega
                simpa using this
              by_cases hb1 : a.b = 1
              · have hq1 : ((a.b : Int) == 1) = true := by rw [hb1]; rfl
                have HBV : Hid (badV a.b (ints a.ks) = ints a.ks ++ [9]) := by show _ = _; unfold badV; rw [if_neg hb0, if_pos hb1]
                clear hb0 hb1
                go_wp2_with
                  (at_builtin
                   refine app1Int rfl (.tmp 98) (.tmp 99) rfl W1.heap.size (.slice VA a.d VC) a.d ((ints a.ks).map (Value.int .i64)) rfl (HO6.out.alloc _) W6.heap.size [.int .i64 9] rfl (Row.new W6 3 [.int .i64 9]) rfl (by simp [Value.oneCell']) (by omega) (by simp; omega) ?_
                   intro v' w7 hown7 hg7 hat7
                   obtain ⟨A7, C7, rfl, -, -, -⟩ := own_slice hown7 (by decide)
                   have HO7 : Hid (∃ VB VD, Value.slice A7 (a.d + 1) C7 = .slice VB (badV a.b (ints a.ks)).length VD ∧ w7.ownsRow W1.heap.size 3 1 (Value.slice A7 (a.d + 1) C7) (badV a.b (ints a.ks)).length ((badV a.b (ints a.ks)).map (Value.int .i64)) ∧ W6.grownBy w7 (Value.slice VA a.d VC).ownBlock) := by
                     refine ⟨A7, C7, ?_, ?_, grown_alloc hg7⟩
                     · rw [HBV.out, List.length_append, HLD.out]; rfl
                     · rw [HBV.out, List.length_append, HLD.out, List.map_append]; exact hown7
                   clear hown7 hg7 hat7)
                go_wp2_with fail
                go_meet
                case rel => exact HO7.out
              have hq1 : ((a.b : Int) == 1) = false := by
                have : (a.b : Int) ≠ 1 := by omega
                simpa using this
              by_cases hb2 : a.b = 2
              · have hq2 : ((a.b : Int) == 2) = true := by rw [hb2]; rfl
                have HBV : Hid (badV a.b (ints a.ks) = ints a.ks ++ [0]) := by show _ = _; unfold badV; rw [if_neg hb0, if_neg hb1, if_pos hb2]
                clear hb0 hb1 hb2
                go_wp2_with
                  (at_builtin
                   refine app1Int rfl (.tmp 103) (.tmp 104) rfl W1.heap.size (.slice VA a.d VC) a.d ((ints a.ks).map (Value.int .i64)) rfl (HO6.out.alloc _) W6.heap.size [.int .i64 0] rfl (Row.new W6 3 [.int .i64 0]) rfl (by simp [Value.oneCell']) (by omega) (by simp; omega) ?_
                   intro v' w7 hown7 hg7 hat7
                   obtain ⟨A7, C7, rfl, -, -, -⟩ := own_slice hown7 (by decide)
                   have HO7 : Hid (∃ VB VD, Value.slice A7 (a.d + 1) C7 = .slice VB (badV a.b (ints a.ks)).length VD ∧ w7.ownsRow W1.heap.size 3 1 (Value.slice A7 (a.d + 1) C7) (badV a.b (ints a.ks)).length ((badV a.b (ints a.ks)).map (Value.int .i64)) ∧ W6.grownBy w7 (Value.slice VA a.d VC).ownBlock) := by
                     refine ⟨A7, C7, ?_, ?_, grown_alloc hg7⟩
                     · rw [HBV.out, List.length_append, HLD.out]; rfl
                     · rw [HBV.out, List.length_append, HLD.out, List.map_append]; exact hown7
                   clear hown7 hg7 hat7)
                go_wp2_with fail
                go_meet
                case rel => exact HO7.out
              have hq2 : ((a.b : Int) == 2) = false := by
                have : (a.b : Int) ≠ 2 := by omega
                simpa using this
              have HBV : Hid (badV a.b (ints a.ks) = -1 :: ints a.ks) := by show _ = _; unfold badV; rw [if_neg hb0, if_neg hb1, if_neg hb2]
              clear hb0 hb1 hb2
              have HSL6 : Hid (SlI .i64 W6.heap.size W6 VA (ints a.ks)) := by
                obtain ⟨A', C', e', -, hs'⟩ := Sl.of_own_n HO6.out
                injection e' with e1 _ e3
                subst e1 e3
                exact hs'
              go_wp2_with
                (at_builtin
                 refine appIs rfl (.tmp 91) (.tmp 92) rfl W1.heap.size (.slice (some ⟨W6.heap.size, 0, none⟩) 1 1) 1 [.int .i64 (-1)] ?_ ?_ VA a.d VC (ints a.ks) HLD.out ?_ ?_ ?_ ?_ ?_
                 · rfl
                 · exact own_one W6 W1.heap.size 3 (.int .i64 (-1)) (by omega)
                 · rfl
                 · exact (Sl.below HSL6.out ((Below.refl _ _).alloc (Nat.le_refl _) _) (Nat.le_refl _)).more (by simp)
                 · omega
                 · simp; omega
                 intro v' w7 hown7 hg7
                 obtain ⟨A7, C7, rfl, -, -, -⟩ := own_slice hown7 (by decide)
                 have HO7 : Hid (∃ VB VD, Value.slice A7 (1 + a.d) C7 = .slice VB (badV a.b (ints a.ks)).length VD ∧ w7.ownsRow W1.heap.size 3 1 (Value.slice A7 (1 + a.d) C7) (badV a.b (ints a.ks)).length ((badV a.b (ints a.ks)).map (Value.int .i64)) ∧ W6.grownBy w7 (Value.slice VA a.d VC).ownBlock) := by
                   have hl : (badV a.b (ints a.ks)).length = 1 + a.d := by rw [HBV.out, List.length_cons, HLD.out]; omega
                   refine ⟨A7, C7, by rw [hl], ?_, ?_⟩
                   · rw [hl, HBV.out]; exact hown7
                   · have h := grown_alloc hg7
                     exact ⟨h.os, h.tape, h.output, h.size, fun b hb _ => h.block b hb (by intro e; have e' : some b = some W6.heap.size := e; injection e' with e'; omega)⟩
                 clear hown7 hg7)
              go_wp2_with fail
              go_meet
              case rel => exact HO7.out
            case rest =>
              obtain ⟨VB, VD, rfl, hownB, hgB⟩ := hcut
              have hzc := hgB.size
              have hx1z := HX1.out.size
              have hvo : ∀ g, (Value.slice VA a.d VC).ownBlock = some g → W1.heap.size ≤ g ∧ g < wv.heap.size := fun g hg => ⟨own_base HO2.out hg, HVLT.out g hg⟩
              obtain ⟨hv1, hv2, hv3⟩ := own_held hownB
              have hbc : Below wo.heap.size wo wc := HBO6.out.grown hgB (by omega) (fun g hg => by have := hvo g hg; omega)
              have ht0 := (HM.out.three).push hbc (T := fun w'' => SlI .i64 wc.heap.size w'' VB (badV a.b (ints a.ks)) ∧ SlRs w5.heap.size w'' PA a.rows) fun w'' hk => ⟨hv3 w'' fun p h1 h2 => hk p (by omega) h2, HP5.out w'' fun p h1 h2 => (hk p (by omega) (by omega)).trans ((grown_cell hgB (p := p) (by omega) fun e => by have := hvo _ e.symm; omega).trans (HX6.out.below.cell (by omega)))⟩
              have hr5 := HR6.out.grown hgB (fun e => by have := hvo _ e.symm; omega)
              have HRC := Lib.hid hr5
              have HT1 := Lib.hid (ht0.up ((Below.refl _ _).alloc (Nat.le_refl _) (.cells #[.slice VB (badV a.b (ints a.ks)).length VD, .int .i64 (a.d : Nat), .slice PA a.rows.length PC] 36)))
              have HV := Lib.hid (And.intro hv1 hv2)
              have HBC := Lib.hid (Below.then HB.out hbc (by omega))
              have b0 : wc.cell? ⟨w5.heap.size, 0, none⟩ = some (.int .i64 (a.d : Nat)) := hr5.cell 0
              have b1 : wc.cell? ⟨w5.heap.size, 1, none⟩ = some (.slice PA a.rows.length PC) := hr5.cell 1
              have hb5 : w5.heap.size < wc.heap.size := hr5.lt
              have HZI : Hid (Z.length ≤ 3600000000000) := by have := HZL.out; show _ ≤ _; omega
              have HLO := Lib.hid (own_lt HM.out.out)
              have HWZ : Hid (w.heap.size ≤ (wc.alloc (.cells #[.slice VB (badV a.b (ints a.ks)).length VD, .int .i64 (a.d : Nat), .slice PA a.rows.length PC] 36)).heap.size) := by show _ ≤ _; have := HBC.out.size; simp; omega
              have HSMALL := Lib.hid (rlRows_any (a.d : Nat))
              have HRO : Hid (RsOk a.rows ∧ a.rows.length ≤ 12) := ⟨by
                intro r hr
                exact rowsI_ok (n := a.d) (by omega) a.R r ((RL.mem_ofF _ _).1 hr), Nat.le_trans (RL.ofF_length_le _) (by rw [List.length_map]; omega)⟩
              generalize hvs : badV a.b (ints a.ks) = vs at *
              generalize hrows : a.rows = P at *
              have HVS : Hid (a.ra = ⟨vs, (a.d : Nat), P⟩) := by show LA.ra a = _; unfold LA.ra; rw [hvs, hrows]
              clear hownB hgB hv1 hv2 hv3 hbc ht0 hr5 hvs hrows
              have hzw5 : wo.heap.size < w5.heap.size := by have := HBO.out.size; omega
              go_wp2_with
                (at_builtin
                 first
                   | (refine app1LA rfl (.tmp 106) (.tmp 110) rfl w.heap.size u6 Z.length (Z.flatMap outC) rfl HT1.out.out wc.heap.size [.slice VB vs.length VD, .int .i64 (a.d : Nat), .slice PA P.length PC] rfl (Row.new wc 36 [.slice VB vs.length VD, .int .i64 (a.d : Nat), .slice PA P.length PC]) rfl (by simp [Value.oneCell']) HZI.out HWZ.out ?_
                      intro v7 w7 hown7 hg7 hat7
                      obtain ⟨A7, C7, rfl, -, -, -⟩ := own_slice hown7 (by decide)
                      have HT2 := Lib.hid (HT1.out.growO hown7 hg7 hat7)
                      have hr7 := (HRC.out.up ((Below.refl _ _).alloc (Nat.le_refl _) (.cells #[.slice VB vs.length VD, .int .i64 (a.d : Nat), .slice PA P.length PC] 36))).grown hg7 (fun e => by have := HLO.out _ e.symm; omega)
                      have b0 : w7.cell? ⟨w5.heap.size, 0, none⟩ = some (.int .i64 (a.d : Nat)) := hr7.cell 0
                      have b1 : w7.cell? ⟨w5.heap.size, 1, none⟩ = some (.slice PA P.length PC) := hr7.cell 1
                      have hb57 : w5.heap.size < w7.heap.size := hr7.lt
                      have hzc7 : wc.heap.size ≤ w7.heap.size := by have := hg7.size; simp at this; omega
                      have HB7 := Lib.hid ((HBC.out.alloc HBC.out.size (.cells #[.slice VB vs.length VD, .int .i64 (a.d : Nat), .slice PA P.length PC] 36)).grown hg7 HWZ.out (fun k hk => own_base HM.out.out hk))
                      have HRLR := Lib.hid (rlRows_any (a.d : Nat) PA PC P w7 (HT2.out.el.now.2.2.more (by have := HT2.out; omega)) HRO.out.1 (by have := HRO.out.2; omega))
                      clear hown7 hg7 hat7 hr7)
                   | fail)
              refine HRLR.out.mono ?_
              rintro e w8 ⟨g8, rfl, hm8, hb8⟩
              have HJ := Lib.hid (l7RowsJ_any (some ⟨g8, 0, none⟩) P.length P w8 hm8.sl (by have := HRO.out.2; omega) HRO.out.1)
              have HB8 := Lib.hid hb8
              have hz8 := hb8.size
              clear hm8 hb8 HRLR b0 b1
              go_wp2_with fail
              refine HJ.out.mono ?_
              rintro e w9 ⟨v9, rfl, hj9, hb9⟩
              obtain ⟨QA, QC, rfl, hq1, hq2, hq3⟩ := hj9.sl (P := fun b => w8.heap.size ≤ b) (fun _ h => h)
              have hz9 := hb9.size
              have HT3 := Lib.hid ((HT2.out.push (Below.then HB8.out hb9 hz8) (T := fun w'' => SlRs w9.heap.size w'' QA P) (fun w'' hk => (hq3.keep (fun p h1 h2 => hk p (by omega) h1)).sl)).up ((Below.refl _ _).alloc (Nat.le_refl _) (.cells #[.slice VB vs.length VD, .slice QA P.length QC] 45)))
              have HQ2 := Lib.hid (And.intro hq1 hq2)
              have HB9 := Lib.hid (Below.then HB7.out (Below.then HB8.out hb9 hz8) HB7.out.size)
              have hw9 := HB9.out.size
              clear hj9 hq1 hq2 hq3 hb9 HJ
              go_wp2_with
                (at_builtin
                 first
                   | (refine app1RA rfl (.tmp 112) (.tmp 118) rfl w.heap.size u7 Z.length (Z.flatMap refC) rfl HT3.out.ref w9.heap.size [.slice VB vs.length VD, .slice QA P.length QC] rfl (Row.new w9 45 [.slice VB vs.length VD, .slice QA P.length QC]) rfl (by simp [Value.oneCell']) HZI.out (by simp; omega) ?_
                      intro v10 w10 hown10 hg10 hat10
                      obtain ⟨A10, C10, rfl, -, -, -⟩ := own_slice hown10 (by decide)
                      have HB10 := Lib.hid ((HB9.out.alloc HB9.out.size (.cells #[.slice VB vs.length VD, .slice QA P.length QC] 45)).grown hg10 (by simp; omega) (fun k hk => own_base HT3.out.ref hk))
                      have hw10 := HB10.out.size
                      have HT4 := Lib.hid ((HT3.out.growM hown10 hg10 hat10).up ((Below.refl _ _).alloc (Nat.le_refl _) (.cells #[.int .i64 (a.d : Nat)] 3)))
                      have hz10 : w9.heap.size ≤ w10.heap.size := by have := hg10.size; simp at this; omega
                      clear hown10 hg10 hat10)
                   | (refine app1Int rfl (.tmp 120) (.tmp 122) rfl w.heap.size u8 Z.length (Z.flatMap arC) rfl HT4.out.ar w10.heap.size [.int .i64 (a.d : Nat)] rfl (Row.new w10 3 [.int .i64 (a.d : Nat)]) rfl (by simp [Value.oneCell']) HZI.out (by simp; omega) ?_
                      intro v12 w12 hown12 hg12 hat12
                      obtain ⟨A12, C12, rfl, -, -, -⟩ := own_slice hown12 (by decide)
                      have HB12 := Lib.hid ((HB10.out.alloc HB10.out.size (.cells #[.int .i64 (a.d : Nat)] 3)).grown hg12 (by simp; omega) (fun k hk => own_base HT4.out.ar hk))
                      have HT5 := Lib.hid (HT4.out.growA hown12 hg12 hat12)
                      have hz12 : w10.heap.size ≤ w12.heap.size := by have := hg12.size; simp at this; omega
                      clear hown12 hg12 hat12)
                   | fail)
              go_roundw
              case rel =>
                refine ⟨i + 1, h1, by go_num, fun x hx => ?_, ⟨Z ++ [(⟨vs, (a.d : Nat), P⟩, ⟨VB, VD, PA, PC, QA, QC⟩)], ?_, ?_⟩, HB12.out⟩
                · rw [HTK.out] at hx
                  rcases List.mem_append.1 hx with hx | hx
                  · exact HALL.out x hx
                  · simp at hx; subst hx; exact HOK.out
                · rw [HTK.out, List.map_append, List.map_append, HZ.out]
                  congr 1
                  show _ = [a.ra]
                  rw [HVS.out]
                  rfl
                · exact MadeI.step rfl HT5.out (by omega) (by omega) (by omega) (by omega) HM.out.ok ⟨HV.out.1, HV.out.2, HPC.out.1, HPC.out.2, HQ2.out.1, HQ2.out.2⟩
              case measure => simp [intOf]; omega
end
section
open Go.RowKit Go.Sort

def j0 : List RL.R := [[valI 1, valI 2, valI 0], [valI 1, valI 3, valI 0]]
def four (t : List Nat) : List Value := [.int .u8 (t.getD 0 0 : Nat), .int .u8 (t.getD 1 0 : Nat), .int .u8 (t.getD 2 0 : Nat), .int .u8 (t.getD 3 0 : Nat)]
theorem slA_row {W : World} {b B : Nat} {T : TypeId} (X : List (List Nat)) (hr : Row W b T (X.flatMap four)) (hb : b < B) : SlA 4 B W (some ⟨b, 0, none⟩) X := fun _ => by
  refine ⟨b, 0, rfl, hb, fun i hi k hk => ?_⟩
  rw [Nat.zero_add]
  refine (hr.cell (i * 4 + k)).trans ((flat_get four 4 (fun _ => rfl) X i k hi hk).trans ?_)
  match k, hk with
  | 0, _ => rfl
  | 1, _ => rfl
  | 2, _ => rfl
  | 3, _ => rfl
end
section
open Go.RowKit Go.Sort

structure DenM (base : Nat) (w : World) (Z : List (RA × HM)) (vo : Value) : Prop where
  own : w.ownsRow base 45 2 vo Z.length (Z.flatMap refC)
  el : Stab (fun b => vo.ownBlock = some b) w fun w'' => ∀ z ∈ Z, ElR w.heap.size z w''
  ok : ∀ z ∈ Z, HmOk z
theorem DenM.nil (base : Nat) (w : World) : DenM base w [] (.slice none 0 0) :=
  ⟨own_nil _ _ _ _, fun _ _ z hz => (by simp at hz), fun z hz => (by simp at hz)⟩
theorem DenM.up {base : Nat} {w w' : World} {Z : List (RA × HM)} {vo : Value} (h : DenM base w Z vo) (hb : Below w.heap.size w w') : DenM base w' Z vo :=
  ⟨own_keep h.own hb, (h.el.up hb).imp fun _ hs z hz => (hs z hz).more hb.size, h.ok⟩
theorem DenM.app {base : Nat} {w w' : World} {Z : List (RA × HM)} {vo v' : Value} (h : DenM base w Z vo) {z : RA × HM} (hz : HmOk z) (he : Stab (fun b => vo.ownBlock = some b) w fun w'' => ElR w.heap.size z w'')
    (hown : w'.ownsRow base 45 2 v' (Z.length + 1) (Z.flatMap refC ++ refC z)) (hg : w.grownBy w' vo.ownBlock) (hb : ∀ b, v'.ownBlock = some b → vo.ownBlock = some b ∨ b = w.heap.size) : DenM base w' (Z ++ [z]) v' := by
  have hF : ∀ b, b < w.heap.size → v'.ownBlock = some b → vo.ownBlock = some b := fun b hlt e => (hb b e).resolve_right (by omega)
  refine ⟨?_, ?_, fun y hy => ?_⟩
  · rw [List.length_append, List.flatMap_append]
    have : [z].flatMap refC = refC z := by simp
    rw [this]
    exact hown
  · refine ((h.el.and he).grow hg (fun _ e => e) hF).imp fun w'' hs y hy => ?_
    rcases List.mem_append.1 hy with hy | hy
    · exact (hs.1 y hy).more hg.size
    · rw [List.mem_singleton.1 hy]; exact hs.2.more hg.size
  · rcases List.mem_append.1 hy with hy | hy
    · exact h.ok y hy
    · rw [List.mem_singleton.1 hy]; exact hz
theorem DenM.fin {base : Nat} {w : World} {Z : List (RA × HM)} {vo : Value} (h : DenM base w Z vo) : ∃ A C, vo = .slice A Z.length C ∧ AtsR w.heap.size w A (Z.map Prod.fst) := by
  obtain ⟨A2, C2, e2, c2, d2, f2⟩ := own_slice h.own (by decide)
  have hel := h.el.now
  refine ⟨A2, C2, e2, fun hn => ?_⟩
  have hz : Z ≠ [] := by intro e; subst e; exact hn rfl
  have hne : Z.flatMap refC ≠ [] := fun h0 => by
    obtain ⟨z, t, rfl⟩ := List.exists_cons_of_ne_nil hz
    rw [List.flatMap_cons] at h0
    have := (List.append_eq_nil_iff.1 h0).1
    simp [refC] at this
  obtain ⟨b, rfl, hb, hc⟩ := f2 hne
  refine ⟨b, 0, rfl, hb, fun i hi => ?_⟩
  rw [List.length_map] at hi
  have hm : Z[i] ∈ Z := List.getElem_mem hi
  have ho := h.ok _ hm
  have he := hel _ hm
  have g := fun j hj => flat_get refC 2 (fun _ => rfl) Z i j hi hj
  rw [List.getElem_map]
  exact ⟨_, _, _, _, by rw [Nat.zero_add]; exact hc _ _ (g 0 (by omega)), by rw [Nat.zero_add]; exact hc _ _ (g 1 (by omega)), ho.v1, ho.v2, ho.q1, ho.q2, he.1, he.2.2⟩
theorem refS2_any {m : Nat} {X : List RA} (hg : Good0 m X) (hm : m ≤ 8) (A : Option Addr) (C : Nat) (w : World) (hr : AtsR w.heap.size w A X) :
    Calls Tryz.prog 34 #[.int .i64 m, .slice none 0 0, .slice A X.length C] w fun e w' => ∃ B D, e = .returned (.slice B (joinF m (X.map RA.at)).length D) ∧ (joinF m (X.map RA.at)).length ≤ D ∧ D ≤ 9223372036854775807 ∧ SlRsP (fun b => w.heap.size ≤ b) w'.heap.size w' B (joinF m (X.map RA.at)) ∧ Below w.heap.size w w' :=
  (r35Join_any m C A X hm (Nat.le_trans hg.many (by omega)) (fun a ha => (hg.sm a ha).ref (hg.ok a ha)) hg.at (fun v => Nat.le_trans (valsF_four hg.sm hg.ok v) (by omega)) m [] none 0 w (by simp) ⟨by simp, fun v hv => by simp at hv⟩ hr SlR.nil (Nat.le_refl _) (by omega)).mono fun e w' h => by
    unfold RJPost at h
    rw [hg.refJ] at h
    obtain ⟨⟨B, D, he, h1, h2, h3⟩, hb⟩ := h
    exact ⟨B, D, he, h1, h2, h3.weak fun b _ hb => hb.elim id (fun ⟨ad, e, _⟩ => by cases e), hb⟩
theorem slI_own {w : World} {base : Nat} {e : TypeId} {A : Option Addr} {C n m : Nat} {U : List Nat} (h : w.ownsRow base e 1 (.slice A n C) m (U.map fun i : Nat => Value.int .i64 (i : Nat))) : SlI .i64 w.heap.size w A (U.map Int.ofNat) := by
  obtain ⟨UA, UC, e, -, -, k3⟩ := Sl.of_own h
  injection e with e1 e2 e3
  subst e1
  show Sl _ _ _ _
  rw [List.map_map]
  exact k3
def JoinRP (al : List At) (w : World) (e : Ending) (w' : World) : Prop := ∃ v, e = .returned v ∧ RefV w' v ((joinR al).vs.map Int.ofNat) (joinR al).P ∧ Below w.heap.size w w'

set_option maxHeartbeats 16000000 in
theorem r36Join_any (AA : Option Addr) (AC : Nat) (al : List At) (w : World) (hA : AtsR w.heap.size w AA (al.map At.ra)) (hl : al.length ≤ 32) (hg : ∀ a ∈ al, Gd a) (h8 : (unionV al).length ≤ 8) :
    Calls Tryz.prog 15 #[.slice AA al.length AC] w (JoinRP al w) := by
  obtain ⟨U, hU⟩ : ∃ U, U = unionV al := ⟨_, rfl⟩
  have HGOOD : Hid (Good0 U.length (denseR U al)) := by show Good0 _ _; rw [hU]; exact dense_good hg hl
  have HJR : Hid ((joinR al).vs = U ∧ (joinR al).P = joinF U.length ((denseR U al).map RA.at)) := ⟨hU.symm, by rw [denseR_at, hU]; rfl⟩
  have HUM : Hid (∀ a ∈ al, ∀ v ∈ a.vs, v ∈ U) := fun a ha v hv => by rw [hU]; exact (mem_unionV hg v).2 ⟨a, ha, hv⟩
  obtain ⟨den, hden⟩ : ∃ den : At → RA, den = fun a => (denseA U a).ra := ⟨_, rfl⟩
  have HDEN := Lib.hid hden
  have HDR : Hid (denseR U al = al.map den) := by show _ = _; rw [hden]; rfl
  have HDL : Hid ((denseR U al).length = al.length) := by show _ = _; rw [HDR.out, List.length_map]
  obtain ⟨W0, hW0⟩ : ∃ W0, W0 = w.alloc (.cells #[.slice none 0 0, .slice none 0 0] 45) := ⟨_, rfl⟩
  have hx0 : Ext w W0 := by rw [hW0]; exact (Ext.refl w).alloc _
  have hr0 : Row W0 w.heap.size 45 [.slice none 0 0, .slice none 0 0] := by rw [hW0]; exact Row.new w 45 _
  have hW0z : W0.heap.size = w.heap.size + 1 := by rw [hW0]; simp
  have HVP := Lib.hid (r36Vars_any AA AC al W0 (hA.upB hx0.below) (by omega) hg)
  have HA := Lib.hid hA
  have HG := Lib.hid hg
  have HX0 := Lib.hid hx0
  have HR0 := Lib.hid hr0
  have HW0E := Lib.hid hW0
  rw [← hU] at h8
  unfold VarsPost at HVP
  rw [← hU] at HVP
  clear hA hg hx0 hr0 hW0 hden hU
  go_enter Tryz.func15, Tryz.ntmps15
  go_upto_region 1 with (fail)
  rw [← HW0E.out]
  clear HW0E
  go_wp2_with fail
  refine HVP.out.mono ?_
  rintro e w1 ⟨vU, rfl, hown, hb1⟩
  obtain ⟨UA, UC, e, -, -, -⟩ := Sl.of_own hown
  rw [List.length_map] at e
  subst e
  have HOU : Hid (w1.ownsRow (w.heap.size + 1) 3 1 (.slice UA U.length UC) U.length (U.map fun i : Nat => Value.int .i64 (i : Nat))) := by have h := hown; rw [hW0z] at h; exact h
  obtain ⟨u1, u2⟩ := own_cap hown
  have hus : SlI .i64 w1.heap.size w1 UA (U.map Int.ofNat) := slI_own hown
  have HUC := Lib.hid (And.intro u1 u2)
  have HUS := Lib.hid hus
  have HB1 := Lib.hid (Below.then HX0.out.below hb1 HX0.out.size)
  have HR1 := Lib.hid (HR0.out.up hb1)
  obtain ⟨B, hB⟩ : ∃ B, B = w1.heap.size := ⟨_, rfl⟩
  have HBE := Lib.hid hB
  have HZ1 : Hid (w.heap.size < w1.heap.size) := HR1.out.lt
  clear hown u1 u2 hus hb1 hB HVP HX0 HR0 hW0z
  go_upto_region 2 with (fail)
  go_wp2_with fail
  go_loopw [4, 5] (fun vo c wx => ∃ (k : Nat) (Z : List (RA × HM)), k ≤ al.length ∧ c = .int .i64 k ∧ Z.map Prod.fst = (al.take k).map den ∧ DenM B wx Z vo ∧ Below B w1 wx) (fun _ c _ => al.length - (intOf c).toNat)
  case atStart => exact ⟨0, [], Nat.zero_le _, rfl, rfl, DenM.nil _ _, Below.refl _ _⟩
  case round =>
    obtain ⟨k, Z, hk, rfl, hZ, hdn, hbw⟩ := hrel
    have HZE := Lib.hid hZ
    have HD := Lib.hid hdn
    have HB := Lib.hid hbw
    have HBW : Hid (Below w1.heap.size w1 wr) := by have h := hbw; rw [HBE.out] at h; exact h
    have HBA : Hid (Below w.heap.size w wr) := Below.then HB1.out HBW.out HB1.out.size
    clear hZ hdn hbw
    by_cases hkl : k < al.length
    rotate_left
    · obtain rfl : k = al.length := by omega
      have r1 : ¬ (al.length : Int) < (al.length : Int) := by omega
      obtain ⟨DA, DC, rfl, hat⟩ := HD.out.fin
      have hze : Z.map Prod.fst = denseR U al := by rw [HZE.out, List.take_length, HDR.out]
      have hzl : Z.length = al.length := by
        have := congrArg List.length hze
        rw [List.length_map, HDL.out] at this
        exact this
      rw [hze] at hat
      have HRJ := Lib.hid (refS2_any HGOOD.out h8 DA DC wr hat)
      rw [HDL.out] at HRJ
      rw [hzl]
      have HRR := Lib.hid (HR1.out.up HBW.out)
      clear hat hze hzl
      have HJP := Lib.hid HJR.out.2
      have HJV := Lib.hid HJR.out.1
      rw [← HJP.out] at HRJ
      go_wp2_with fail
      refine HRJ.out.mono ?_
      rintro e w2 ⟨JA, JC, rfl, k1, k2, hs, hb2⟩
      have HBJ := Lib.hid hb2
      have HR2 := Lib.hid (HRR.out.up hb2)
      have HB2 := Lib.hid (Below.then HBA.out hb2 HBA.out.size)
      have HU2 := Lib.hid ((Sl.below HUS.out (Below.then HBW.out hb2 HBW.out.size) (Nat.le_refl _)).more (Below.then HBW.out hb2 HBW.out.size).size)
      have HJC := Lib.hid (And.intro k1 k2)
      have HJS := Lib.hid hs
      have m0 : w2.cell? ⟨w.heap.size, 0, none⟩ = some (.slice none 0 0) := HR2.out.cell 0
      have m1 : w2.cell? ⟨w.heap.size, 1, none⟩ = some (.slice none 0 0) := HR2.out.cell 1
      have m2 := HR2.out.frozen 0
      have m3 := HR2.out.frozen 1
      have m4 := HR2.out.lt
      clear k1 k2 hs hb2 HRJ
      generalize hJ : (joinR al).P = J at *
      have HJ := Lib.hid hJ
      clear hJ
      go_wp2_with fail
      obtain ⟨V6, hV6⟩ : ∃ V', V' = (w2.setCell ⟨w.heap.size, 0, none⟩ (.slice UA U.length UC)).setCell ⟨w.heap.size, 1, none⟩ (.slice JA J.length JC) := ⟨_, rfl⟩
      rw [← hV6]
      have q : Row V6 w.heap.size 45 [.slice UA U.length UC, .slice JA J.length JC] := by rw [hV6]; exact (HR2.out.set 0 _).set 1 _
      have f0 := q.cell 0
      have f1 := q.cell 1
      have hcell : ∀ p : Addr, p.block ≠ w.heap.size → V6.cell? p = w2.cell? p := fun p hp => by
        rw [hV6, World.cell?_setCell_other _ _ _ _ (fun e => hp (by rw [← e])), World.cell?_setCell_other _ _ _ _ (fun e => hp (by rw [← e]))]
      have hsz : V6.heap.size = w2.heap.size := by rw [hV6]; simp
      have hu6 : SlI .i64 V6.heap.size V6 UA (U.map Int.ofNat) := by
        have h2 := own_keep HOU.out (Below.then HBW.out HBJ.out HBW.out.size)
        refine slI_own (n := U.length) (C := UC) (e := 3) (base := w.heap.size + 1) (m := U.length) ?_
        rw [hV6]
        exact own_far (own_far h2 (p := ⟨w.heap.size, 0, none⟩) (fun e => by have h1 := own_base h2 e; simp only at h1; omega) _) (p := ⟨w.heap.size, 1, none⟩) (fun e => by have h1 := own_base h2 e; simp only at h1; omega) _
      refine bodyPost_ret (v := .agg #[.slice UA U.length UC, .slice JA J.length JC]) (by simp [results, Tryz.results15, go_sem, f0, f1]) rfl ?_
      unfold JoinRP
      rw [HJ.out, HJV.out]
      refine ⟨_, rfl, ⟨UA, UC, JA, JC, by rw [List.length_map], by rw [List.length_map]; exact HUC.out.1, HUC.out.2, HJC.out.1, HJC.out.2, hu6, ?_⟩, ?_⟩
      · rw [hsz]
        exact (HJS.out.keep fun p _ h2 => hcell p (by have := HZ1.out; have := HBW.out.size; omega)).sl
      · rw [hV6]
        exact (HB2.out.setCell (p := ⟨w.heap.size, 0, none⟩) (Nat.le_refl _) _).setCell (p := ⟨w.heap.size, 1, none⟩) (Nat.le_refl _) _
    have r0 : (0 : Int) ≤ (k : Int) := by omega
    have r1 : (k : Int) < (al.length : Int) := by omega
    have r3 : IntKind.i64.wrap ((k : Int) + 1) = ((k + 1 : Nat) : Int) := by rw [IntWalk.i64_in _ (by omega)]; omega
    obtain ⟨ab, ao, VA, VC, QA, QC, rfl, hab, a0, a1, c1, c2, c3, c4, av, aq⟩ := atsR_at HA.out (i := k) (by rw [List.length_map]; exact hkl)
    have HGK := Lib.hid (HG.out _ (List.getElem_mem hkl))
    have HUK : Hid (∀ v ∈ al[k].vs, v ∈ U) := HUM.out _ (List.getElem_mem hkl)
    have HTK : Hid ((al.take (k + 1)).map den = (al.take k).map den ++ [den al[k]]) := by show _ = _; rw [List.take_succ_eq_append_getElem hkl, List.map_append]; rfl
    simp only [List.getElem_map] at a0 a1 av aq c1 c3
    have HVS : Hid (SlI .i64 w.heap.size w VA (al[k].vs.map Int.ofNat)) := av
    have HQS : Hid (SlRs w.heap.size w QA al[k].P) := aq
    have HDK : Hid (den al[k] = (denseA U al[k]).ra) := by show _ = _; rw [HDEN.out]
    have hvl : al[k].ra.vs.length = al[k].vs.length := List.length_map ..
    rw [hvl] at a0 c1
    have a1 : w.cell? ⟨ab, ao + k * 2 + 1, none⟩ = some (.slice QA al[k].P.length QC) := a1
    have HCC : Hid ((al[k].vs.length ≤ VC ∧ VC ≤ 9223372036854775807) ∧ al[k].P.length ≤ QC ∧ QC ≤ 9223372036854775807) := ⟨⟨c1, c2⟩, c3, c4⟩
    clear av aq hvl c1 c2 c3 c4
    generalize al[k] = a at *
    have HHB := Lib.hid hab
    have HA0 := Lib.hid a0
    have a0 := (HBA.out.cell (p := ⟨ab, ao + k * 2, none⟩) hab).trans a0
    have a1 := (HBA.out.cell (p := ⟨ab, ao + k * 2 + 1, none⟩) hab).trans a1
    have hab2 : ab < wr.heap.size := Nat.lt_of_lt_of_le hab HBA.out.size
    clear hab
    obtain ⟨us, P⟩ := a
    simp only at HVS HQS HGK HUK HCC a0 a1 HA0
    have hul : us.length ≤ 32 := HGK.out.vl
    obtain ⟨wo, hwo⟩ : ∃ wo, wo = wr := ⟨_, rfl⟩
    subst hwo
    obtain ⟨vo, hvo⟩ : ∃ vo, vo = u4 := ⟨_, rfl⟩
    obtain ⟨W3, hW3⟩ : ∃ W3, W3 = wo.alloc (.cells #[.slice none 0 0, .slice QA P.length QC] 45) := ⟨_, rfl⟩
    obtain ⟨gi, hgi⟩ : ∃ gi, gi = wo.heap.size := ⟨_, rfl⟩
    have HX3 : Hid (Ext wo W3) := by show Ext _ _; rw [hW3]; exact (Ext.refl wo).alloc _
    have HR8 : Hid (Row W3 gi 45 [.slice none 0 0, .slice QA P.length QC]) := by show Row _ _ _ _; rw [hW3, hgi]; exact Row.new wo 45 _
    have HW3E := Lib.hid hW3
    have HGIE := Lib.hid hgi
    have HZ3 : Hid (gi + 1 = W3.heap.size) := by show _ = _; rw [hW3, hgi]; simp
    clear hW3 hgi hvo
    go_upto_region 7 with (fail)
    rw [← HW3E.out, ← HGIE.out]
    clear HW3E a0 a1 hab2
    go_wp2_with fail
    go_loopw [7] (fun c wx => ∃ (j : Nat) (v : Value), j ≤ us.length ∧ c = .int .i64 j ∧ Row wx gi 45 [v, .slice QA P.length QC] ∧ wx.ownsRow (gi + 1) 3 1 v j ((us.take j).map fun x : Nat => Value.int .i64 (U.idxOf x : Nat)) ∧ Below gi W3 wx) (fun c _ => us.length - (intOf c).toNat)
    case atStart => exact ⟨0, _, Nat.zero_le _, rfl, HR8.out, own_nil _ _ _ _, Below.refl _ _⟩
    case round =>
      obtain ⟨j, v, hj, rfl, hrow, hown, hbw⟩ := hrel
      have HROW := Lib.hid hrow
      have HO := Lib.hid hown
      have HBI : Hid (Below wo.heap.size wo wr) := Below.then HX3.out.below (by have h := hbw; rw [HGIE.out] at h; exact h) (Nat.le_refl _)
      have HBG := Lib.hid hbw
      have HB1I : Hid (Below w1.heap.size w1 wr) := Below.then HBW.out HBI.out HBW.out.size
      have HBAI : Hid (Below w.heap.size w wr) := Below.then HBA.out HBI.out HBA.out.size
      have a0 := (HBAI.out.cell (p := ⟨ab, ao + k * 2, none⟩) HHB.out).trans HA0.out
      have hab2 : ab < wr.heap.size := Nat.lt_of_lt_of_le HHB.out HBAI.out.size
      have q0 : wr.cell? ⟨gi, 0, none⟩ = some v := hrow.cell 0
      have q1 : wr.cell? ⟨gi, 1, none⟩ = some (.slice QA P.length QC) := hrow.cell 1
      have q2 := hrow.lt
      have HGZ : Hid (wo.heap.size ≤ gi ∧ gi < wr.heap.size) := ⟨Nat.le_of_eq HGIE.out.symm, q2⟩
      clear hrow hown hbw
      by_cases hjl : j < us.length
      rotate_left
      · obtain rfl : j = us.length := by omega
        have t1 : ¬ (us.length : Int) < (us.length : Int) := by omega
        have hown := HO.out
        rw [List.take_length] at hown
        obtain ⟨NA, NC, e, n1, -, n3⟩ := Sl.of_own hown
        rw [List.length_map] at e n1
        subst e
        have n2 := (own_cap hown).2
        have hbn : ∀ b, (Value.slice NA us.length NC).ownBlock = some b → gi + 1 ≤ b := fun b hb => own_base hown hb
        have hzv : (denseA U ⟨us, P⟩).ra.vs = us.map fun x => (U.idxOf x : Int) := by
          unfold denseA At.ra
          simp only [List.map_map]
          rfl
        have HHM : Hid (HmOk (den ⟨us, P⟩, ⟨NA, NC, QA, QC, QA, QC⟩)) := by
          show HmOk _
          rw [HDK.out]
          have e1 : (denseA U ⟨us, P⟩).ra.vs.length = us.length := by rw [hzv, List.length_map]
          exact ⟨by show (denseA U ⟨us, P⟩).ra.vs.length ≤ NC; omega, n2, HCC.out.2.1, HCC.out.2.2, HCC.out.2.1, HCC.out.2.2⟩
        have HDW := Lib.hid (HD.out.up HBI.out)
        have HVB : Hid (∀ b, u4.ownBlock = some b → b < wo.heap.size ∧ B ≤ b) := fun b hb => ⟨own_lt HD.out.own b hb, own_base HD.out.own hb⟩
        have HEL : Hid (Stab (fun b => u4.ownBlock = some b) wr fun w'' => ElR wr.heap.size (den ⟨us, P⟩, ⟨NA, NC, QA, QC, QA, QC⟩) w'') := fun w'' hag => by
          rw [HDK.out]
          have hq : SlRs wr.heap.size w'' QA P := ((HQS.out.keep fun p hp => (hag p (Nat.lt_of_lt_of_le hp HBAI.out.size) fun h4 => by have h5 := (HVB.out _ h4).2; have := HZ1.out; have := HBE.out; omega).trans (HBAI.out.cell hp)).more HBAI.out.size)
          refine ⟨?_, hq, hq⟩
          show Sl _ _ _ _
          rw [hzv, List.map_map]
          intro hne
          obtain ⟨b, o, e2, hb, hc⟩ := n3 hne
          refine ⟨b, o, e2, hb, fun i u hu => (hag ⟨b, o + i, none⟩ hb fun h4 => ?_).trans (hc i u hu)⟩
          have h5 := hbn b (by rw [e2]; rfl)
          have h6 := (HVB.out b h4).1
          have := HGZ.out
          omega
        have HRC : Hid (refC (den ⟨us, P⟩, ⟨NA, NC, QA, QC, QA, QC⟩) = [.slice NA us.length NC, .slice QA P.length QC]) := by
          show _ = _
          rw [HDK.out]
          have e1 : (denseA U ⟨us, P⟩).ra.vs.length = us.length := by rw [hzv, List.length_map]
          unfold refC
          simp only [e1]
          rfl
        have HZL : Hid (Z.length ≤ 32) := by
          have h1 := congrArg List.length HZE.out
          rw [List.length_map, List.length_map, List.length_take] at h1
          show _ ≤ _
          omega
        obtain ⟨z, hz⟩ : ∃ z : RA × HM, z = (den ⟨us, P⟩, ⟨NA, NC, QA, QC, QA, QC⟩) := ⟨_, rfl⟩
        have HZF : Hid (z.1 = den ⟨us, P⟩) := by show _ = _; rw [hz]
        rw [← hz] at HHM HEL HRC
        have HDA : Hid (∀ o : Obj, DenM B (wr.alloc o) Z u4) := fun o => HDW.out.up ((Ext.refl wr).alloc o).below
        have HELA : Hid (∀ o : Obj, Stab (fun b => u4.ownBlock = some b) (wr.alloc o) fun w'' => ElR (wr.alloc o).heap.size z w'') := fun o => (HEL.out.up ((Ext.refl wr).alloc o).below).imp fun _ h => h.more ((Ext.refl wr).alloc o).size
        have HBZ : Hid (∀ o : Obj, B ≤ (wr.alloc o).heap.size) := fun o => Nat.le_trans (by rw [HBE.out]; exact HB1I.out.size) ((Ext.refl wr).alloc o).size
        have HB1A : Hid (∀ o : Obj, Below B w1 (wr.alloc o)) := fun o => by rw [HBE.out]; exact Below.then HB1I.out ((Ext.refl wr).alloc o).below HB1I.out.size
        have HRN := Lib.hid (Row.new wr 45 [.slice NA us.length NC, .slice QA P.length QC])
        have hu4 := HVB
        clear hown n1 n2 n3 hbn hzv hz hu4 HEL HDW
        go_wp2_with (at_builtin; refine app1RA rfl (.tmp 53) (.tmp 55) rfl B u4 Z.length (Z.flatMap refC) rfl (HDA.out _).own wr.heap.size [.slice NA us.length NC, .slice QA P.length QC] rfl HRN.out rfl (by simp [Value.oneCell']) (by have := HZL.out; omega) (HBZ.out _) ?_
                     intro v5 w5 hown5 hg5 hb5
                     have HD5 : Hid (DenM B w5 (Z ++ [z]) v5) := (HDA.out _).app HHM.out (HELA.out _) (by rw [HRC.out]; exact hown5) hg5 hb5
                     have HB5 : Hid (Below B w1 w5) := (HB1A.out _).grown hg5 (HBZ.out _) (fun j hj => (HVB.out j hj).2)
                     clear hown5 hg5 hb5)
        go_roundw
        case rel => exact ⟨k + 1, Z ++ [z], hkl, by go_num, by rw [List.map_append, HTK.out, HZE.out, List.map_singleton, HZF.out], HD5.out, HB5.out⟩
        case measure => simp [intOf]; omega
      have t0 : (0 : Int) ≤ (j : Int) := by omega
      have t1 : (j : Int) < (us.length : Int) := by omega
      have t3 : IntKind.i64.wrap ((j : Int) + 1) = ((j + 1 : Nat) : Int) := by rw [IntWalk.i64_in _ (by omega)]; omega
      obtain ⟨vb, vj, hva, hvb, vc⟩ := slI_at HVS.out (i := j) (by rw [List.length_map]; exact hjl)
      subst hva
      have vc := (HBAI.out.cell (p := ⟨vb, vj + j, none⟩) hvb).trans vc
      rw [List.getElem_map] at vc
      change wr.cell? ⟨vb, vj + j, none⟩ = some (.int .i64 (us[j] : Nat)) at vc
      have hvb2 : vb < wr.heap.size := Nat.lt_of_lt_of_le hvb HBAI.out.size
      have hin : us[j] ∈ U := HUK.out _ (List.getElem_mem hjl)
      have HTJ : Hid ((us.take (j + 1)).map (fun x : Nat => Value.int .i64 (U.idxOf x : Nat)) = (us.take j).map (fun x : Nat => Value.int .i64 (U.idxOf x : Nat)) ++ [.int .i64 (U.idxOf us[j] : Nat)]) := by show _ = _; rw [List.take_succ_eq_append_getElem hjl, List.map_append]; rfl
      have hlm : (U.map Int.ofNat).length = U.length := List.length_map ..
      have HIN := Lib.hid (r36In_any UA UC (U.map Int.ofNat) (us[j] : Int) wr ((Sl.below HUS.out HB1I.out (Nat.le_refl _)).more HB1I.out.size) (by rw [hlm]; omega))
      rw [hlm, inF_nat, if_pos hin] at HIN
      clear hlm hin hvb
      generalize us[j] = uv at *
      have HLI : Hid (((us.take j).map fun x : Nat => Value.int .i64 (U.idxOf x : Nat)).length = j) := by show _ = _; rw [List.length_map, List.length_take]; omega
      generalize (us.take j).map (fun x : Nat => Value.int .i64 (U.idxOf x : Nat)) = cs at *
      go_wp2_with fail
      refine HIN.out.mono ?_
      rintro e w4 ⟨rfl, hw4⟩
      obtain rfl := hw4.symm
      clear HIN
      generalize U.idxOf uv = z at *
      have HROWA : Hid (∀ o : Obj, Row (wr.alloc o) gi 45 [v, .slice QA P.length QC]) := fun o => HROW.out.alloc o
      have HOA : Hid (∀ o : Obj, (wr.alloc o).ownsRow (gi + 1) 3 1 v j cs) := fun o => own_keep HO.out ((Ext.refl wr).alloc o).below
      have HBA3 : Hid (∀ o : Obj, Below gi W3 (wr.alloc o)) := fun o => Below.then HBG.out ((Ext.refl wr).alloc o).below (by have := HBG.out.size; have := HZ3.out; omega)
      have HOB : Hid (∀ b, v.ownBlock = some b → gi + 1 ≤ b) := fun b hb => own_base HO.out hb
      have HGA : Hid (∀ o : Obj, gi + 1 ≤ (wr.alloc o).heap.size) := fun o => Nat.le_trans (by have := HGZ.out.2; omega) ((Ext.refl wr).alloc o).size
      have HRN := Lib.hid ((Row.new wr 3 [.int .i64 (z : Nat)]).cell 0)
      have HVF : Hid (∀ b, v.ownBlock = some b → b ≠ gi) := fun b hb => by have := HOB.out b hb; omega
      go_wp2_with (at_builtin; go_loud (refine app1Int27 rfl (.tmp 48) (.tmp 50) rfl (gi + 1) v j cs rfl (HOA.out _) wr.heap.size (z : Int) rfl HRN.out (by omega) (HGA.out _) ?_)
                   intro v5 w5 hown5 hg5
                   have HR5 : Hid (Row w5 gi 45 [v, .slice QA P.length QC]) := (HROWA.out _).grown hg5 (fun e => HVF.out _ e.symm rfl)
                   have HO5 := Lib.hid hown5
                   have HB5 : Hid (Below gi W3 w5) := (HBA3.out _).grown hg5 (by have := HGA.out (.cells #[.int .i64 (z : Nat)] 3); omega) (fun j hj => by have := HOB.out j hj; omega)
                   have e0 : w5.cell? ⟨gi, 0, none⟩ = some v := HR5.out.cell 0
                   have e1 := HR5.out.frozen 0
                   have e2 := HR5.out.lt
                   obtain ⟨ng, cap, e9, -⟩ := own_form hown5 (by omega)
                   subst e9
                   have HR7 := Lib.hid (HR5.out.set 0 (.slice (some ⟨ng, 0, none⟩) (j + 1) cap))
                   have HO7 := Lib.hid (own_far HO5.out (p := ⟨gi, 0, none⟩) (fun e => by have h1 := own_base HO5.out e; simp only at h1; omega) (.slice (some ⟨ng, 0, none⟩) (j + 1) cap))
                   have HB7 := Lib.hid (HB5.out.setCell (p := ⟨gi, 0, none⟩) (Nat.le_refl _) (.slice (some ⟨ng, 0, none⟩) (j + 1) cap))
                   clear hown5 hg5)
      go_roundw
      case rel => exact ⟨j + 1, _, hjl, by go_num, HR7.out, by rw [HTJ.out]; exact HO7.out, HB7.out⟩
      case measure => simp [intOf]; omega
end
end Go.Proofs.YthgaflmldbgbnaaGreatDoor

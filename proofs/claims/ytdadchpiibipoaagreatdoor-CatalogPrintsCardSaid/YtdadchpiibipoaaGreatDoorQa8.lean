/- Parts of the proof, merged: C21, C22, C23. -/
import Derived.Test.YtdadchpiibipoaaGreatDoorQa7

set_option maxRecDepth 100000
namespace Go.Proofs.YtdadchpiibipoaaGreatDoor
section
open Go.RowKit Go.Sort Go.ChangeMaps Go.WideShapes

theorem FreshRs.toP {lo : Nat} {w' : World} {A : Option Addr} {X : List RL.R} (h : FreshRs lo w' A X) : SlRsP (fun b => lo ≤ b) w'.heap.size w' A X := by
  let u : World := { w' with heap := w'.heap.mapIdx fun i o => if i < lo then .map #[] 0 else o }
  have hsz : u.heap.size = w'.heap.size := by simp [u]
  have hin : ∀ p : Addr, lo ≤ p.block → u.cell? p = w'.cell? p := fun p hp => by
    refine World.cell?_of_block ?_
    show (w'.heap.mapIdx _)[p.block]? = _
    rw [Array.getElem?_mapIdx]
    have : ¬ p.block < lo := by omega
    simp only [if_neg this]
    cases w'.heap[p.block]? <;> rfl
  have hout : ∀ p : Addr, p.block < lo → u.cell? p = none := fun p hp => by
    have : u.heap[p.block]? = (w'.heap[p.block]?).map fun _ => (.map #[] 0 : Obj) := by
      show (w'.heap.mapIdx _)[p.block]? = _
      rw [Array.getElem?_mapIdx]
      simp only [if_pos hp]
    unfold World.cell?
    rw [this]
    cases w'.heap[p.block]? <;> rfl
  have hs := (h u fun p hp _ => hin p hp).toP
  have hge : ∀ (p : Addr) (v : Value), u.cell? p = some v → lo ≤ p.block := fun p v hc => by
    rcases Nat.lt_or_ge p.block lo with h1 | h1
    · rw [hout p h1] at hc; cases hc
    · exact h1
  intro hn
  obtain ⟨b, o, rfl, hb, -, hs, ⟨hl, hH⟩, hc⟩ := hs hn
  have hlb : lo ≤ b := by
    cases hs with
    | nil => cases X with
      | nil => exact absurd rfl hn
      | cons a t => simp at hl
    | cons x t => exact hge ⟨b, o + 0, none⟩ x (hc 0 x rfl)
  refine ⟨b, o, rfl, hb, hlb, hs, ⟨hl, fun i x y hx hy => ?_⟩, fun i x hx => (hin ⟨b, o + i, none⟩ hlb).symm.trans (hc i x hx)⟩
  obtain ⟨A', C', g1, g2, g3, g4, g5⟩ := hH i x y hx hy
  have hy0 : y ≠ [] → ∀ ad, A' = some ad → lo ≤ ad.block := fun hy ad e => by
    obtain ⟨b', o', e', -, hc'⟩ := g4 (ne_rcells hy)
    rw [e] at e'
    injection e' with e'
    subst e'
    cases hr : rcells y with
    | nil => exact absurd hr (ne_rcells hy)
    | cons a t => exact hge ⟨b', o' + 0, none⟩ a (hc' 0 a (by rw [hr]; rfl))
  exact ⟨A', C', g1, g2, g3, g4.keepP hy0 (fun p _ hp => (hin p hp).symm), hy0⟩
theorem freshP {lo : Nat} {wc w' : World} {A : Option Addr} {X : List RL.R} (h : FreshRs lo wc A X) (hw : ∀ p : Addr, lo ≤ p.block → p.block < wc.heap.size → w'.cell? p = wc.cell? p) (hz : wc.heap.size ≤ w'.heap.size) : SlRsP (fun b => lo ≤ b) w'.heap.size w' A X :=
  ((h.toP).keep fun p h1 h2 => hw p h2 h1).more hz
theorem EntsM.off {P : Nat → Prop} {S : Sch} {F : Cont} {w : World} {k : TypeId} {b n : Nat} {D D' : DataW Value} (hm : w.ownsMap Tryz.prog k heldR b n D) (h : EntsM P S w D' F) : EntsM (fun c => P c ∧ c ≠ b) S w D' F :=
  ⟨h.1, h.2.1, fun p hp => by obtain ⟨v, g1, g2⟩ := h.2.2 p hp; exact ⟨v, g1, g2.off hm⟩⟩
theorem own_slrs0 {P : Nat → Prop} {w : World} {base : Nat} {E : TypeId} {A : Option Addr} {C : Nat} {hs : List Value} {Y : List RL.R} (h : w.ownsRow base E 1 (.slice A Y.length C) Y.length hs) (hd : Hdrs P w.heap.size w hs Y) : SlRs w.heap.size w A Y := by
  obtain ⟨A', C', e, -, -, hs⟩ := own_slrs (P := fun _ => True) h (hd.weak fun _ _ _ => trivial) (Nat.le_refl _) fun _ _ => trivial
  injection e with e1 e2 e3
  rw [e1]
  exact hs.sl
theorem wrongF_errF {n : Int} {X : List RL.R} (h : ∀ x ∈ X, wrongF n x = 0) : errF n X = 0 := errF_zero.2 h

set_option maxHeartbeats 8000000 in
theorem rdClose_nil {rb : Nat} {w : World} {r : Rd} (h : RdM rb w r) (hS : r.S = []) : Calls Tryz.prog 64 #[.pointer (some ⟨rb, 0, none⟩)] w fun e w' => e = .returned (.tuple #[]) ∧ w' = w := by
  obtain ⟨vs, vr, m, sc, hs, hrow, hown, -⟩ := h
  rw [hS] at hown
  obtain ⟨A, C, rfl, -⟩ := own_cut hown (by decide)
  have c1 : w.cell? ⟨rb, 1, none⟩ = some (.slice A 0 C) := hrow.cell 1
  clear hrow hown
  go_enter Tryz.func64, Tryz.ntmps64
  go_wp2_with fail
  refine bodyPost_ret (results_none rfl _ _ _) rfl ?_
  exact ⟨rfl, rfl⟩

set_option maxHeartbeats 8000000 in
theorem rdClose_some {rb : Nat} {w : World} {r : Rd} {S0 : Sch} {nm : ByteArray} {ks : List Int} (h : RdM rb w r) (hS : r.S = S0 ++ [(nm, ks)]) (hnd : (r.S.map Prod.fst).Nodup) (hSl : r.S.length ≤ 1000) (hX : RowsOk ks.length r.X) (hk6 : ks.length ≤ 6) (hnm : nm.size ≤ maxLen) : Calls Tryz.prog 64 #[.pointer (some ⟨rb, 0, none⟩)] w fun e w' => e = .returned (.tuple #[]) ∧ RdM rb w' { r with F := updC r.F nm r.X, X := [] } ∧ Below rb w w' := by
  obtain ⟨vs, vr, m, sc, hs, hrow, hown, hsc, hownr, hhd, hm⟩ := h
  obtain ⟨n, hn⟩ : ∃ n, n = r.S.length := ⟨_, rfl⟩
  obtain ⟨j, hj⟩ : ∃ j, j = S0.length := ⟨_, rfl⟩
  have hnj : n = j + 1 := by rw [hn, hS, hj]; simp
  rw [← hn] at hown
  obtain ⟨sb, cap, rfl, hsb, hsbw⟩ := hown.form (by omega)
  obtain ⟨RA, RC, rfl, hRC, hRM, -⟩ := own_cut hownr (by decide)
  have hS0 : r.S ≠ [] := by rw [hS]; simp
  obtain ⟨mb, D, rfl, hPm, hmap, hent⟩ : ∃ b D, m = .map (some b) ∧ RdP rb (.slice (some ⟨sb, 0, none⟩) n cap) (.slice RA r.X.length RC) b ∧ w.ownsMap Tryz.prog 9 heldR b (Maps.size D) D ∧ EntsM (RdP rb (.slice (some ⟨sb, 0, none⟩) n cap) (.slice RA r.X.length RC)) r.S w D r.F := by
    rcases hm with ⟨h0, -⟩ | ⟨-, h1⟩
    · exact absurd h0 hS0
    · exact h1.ents
  obtain ⟨KA, KC, s0, s1, hki⟩ := hsc.at_ j (by rw [← hn]; omega)
  have hat : r.S[j]'(by rw [← hn]; omega) = (nm, ks) := by simp [hS, hj]
  rw [hat] at s0 s1 hki
  have s0 : sc[j * 2]? = some (.string nm) := s0
  have s1 : sc[j * 2 + 1]? = some (.slice KA ks.length KC) := s1
  have hki : SlIP (RdP rb (.slice (some ⟨sb, 0, none⟩) n cap) (.slice RA r.X.length RC)) w KA ks := hki
  have s0 : w.cell? ⟨sb, j * 2, none⟩ = some (.string nm) := by have := hown.cells rfl _ _ s0; rwa [Addr.add_lit, Nat.zero_add] at this
  have s1 : w.cell? ⟨sb, j * 2 + 1, none⟩ = some (.slice KA ks.length KC) := by have := hown.cells rfl _ _ s1; rwa [Addr.add_lit, Nat.zero_add] at this
  have c1 : w.cell? ⟨rb, 1, none⟩ = some (.slice (some ⟨sb, 0, none⟩) n cap) := hrow.cell 1
  have c2 : w.cell? ⟨rb, 2, none⟩ = some (.map (some mb)) := hrow.cell 2
  have c3 : w.cell? ⟨rb, 3, none⟩ = some (.slice RA r.X.length RC) := hrow.cell 3
  have hrl := hrow.lt
  have hmw := hmap.lt
  obtain ⟨kl, hkl⟩ : ∃ kl, kl = ks.length := ⟨_, rfl⟩
  rw [← hkl] at s1 hX hk6
  have HS1 : Hid (∀ V, Below w.heap.size w V → V.cell? ⟨rb, 1, none⟩ = some (.slice (some ⟨sb, 0, none⟩) n cap) ∧ V.cell? ⟨sb, j * 2, none⟩ = some (.string nm) ∧ V.cell? ⟨sb, j * 2 + 1, none⟩ = some (.slice KA kl KC)) := fun V hb =>
    ⟨cell_below hb c1, cell_below hb s0, cell_below hb s1⟩
  have HC3 : Hid (∀ V, Below w.heap.size w V → V.cell? ⟨rb, 3, none⟩ = some (.slice RA r.X.length RC)) := fun V hb => cell_below hb c3
  have HC2 : Hid (∀ V, Below w.heap.size w V → V.cell? ⟨rb, 2, none⟩ = some (.map (some mb))) := fun V hb => cell_below hb c2
  have hd : ((n : Int) == 0) = false := by rw [beq_eq_false_iff_ne]; omega
  have hw1 : IntKind.i64.wrap ((n : Int) - 1) = (j : Int) := by rw [IntWalk.i64_in _ (by omega)]; omega
  have g1 : (0 : Int) ≤ (j : Int) := by omega
  have g2 : (j : Int) < (n : Int) := by omega
  have HRX : Hid (Hdrs (RdP rb (.slice (some ⟨sb, 0, none⟩) n cap) (.slice RA r.X.length RC)) w.heap.size w hs r.X) := hhd
  have HOR := Lib.hid hownr
  have HOS := Lib.hid hown
  have HSC := Lib.hid hsc
  have HKI := Lib.hid hki
  have HMAP := Lib.hid hmap
  have HENT := Lib.hid hent
  have HPM := Lib.hid hPm
  have HROW := Lib.hid hrow
  have HRC : Hid (r.X.length ≤ RC ∧ RC ≤ 9223372036854775807) := ⟨hRC, hRM⟩
  have HX := Lib.hid hX
  have HKL := Lib.hid hkl
  have HND := Lib.hid hnd
  have HSS := Lib.hid hS
  have HNM := Lib.hid hnm
  have HNN := Lib.hid hn
  have HNJ := Lib.hid hnj
  have HJ := Lib.hid hj
  clear hrow hown hsc hownr hhd hm hmap hent hPm hki hat s0 c2 c3 hX hkl hnd hS hnm hn hRC hRM hS0 hnj hj
  go_enter Tryz.func64, Tryz.ntmps64
  go_upto_region 1 with (fail)
  have s0 : Hid True := trivial
  refine wp_region_held_drew (S := (fun w' => w'.cell? ⟨rb, 1, none⟩ = some (.slice (some ⟨sb, 0, none⟩) n cap) ∧ w'.cell? ⟨sb, j * 2, none⟩ = some (.string nm) ∧ w'.cell? ⟨sb, j * 2 + 1, none⟩ = some (.slice KA kl KC))) (by kernel_rfl) (HS1.out w.drew (Below.refl _ _).drew) (fun hHeld => ?_)
  refine takeOp (i := 0) (v := ?_) (some 11) rfl rfl (by kernel_rfl) (by kernel_rfl) (by kernel_rfl) (fun _ _ _ h => h) (Or.inl ⟨by rfl, ?_⟩) (by assumption) ?_
  rotate_left 1
  · (intro w0 hSw; (try dsimp only at hSw); go_simp; try (with_reducible rfl))
  try simp only [Act.put, List.setIfInBounds_toArray, List.set_cons_succ, List.set_cons_zero]
  refine takeOp (i := 1) (v := ?_) (some 12) rfl rfl (by kernel_rfl) (by kernel_rfl) (by kernel_rfl) (fun _ _ _ h => h) (Or.inl ⟨by rfl, ?_⟩) (by assumption) ?_
  rotate_left 1
  · (intro w0 hSw; (try dsimp only at hSw); go_simp; try (with_reducible rfl))
  try simp only [Act.put, List.setIfInBounds_toArray, List.set_cons_succ, List.set_cons_zero]
  refine takeOp (i := 2) (v := ?_) (some 13) rfl rfl (by kernel_rfl) (by kernel_rfl) (by kernel_rfl) (fun _ _ _ h => h) (Or.inl ⟨by rfl, ?_⟩) (by assumption) ?_
  rotate_left 1
  · (intro w0 hSw; (try dsimp only at hSw); go_simp; try (with_reducible rfl))
  try simp only [Act.put, List.setIfInBounds_toArray, List.set_cons_succ, List.set_cons_zero]
  refine takeOp (i := 3) (v := ?_) (some 14) rfl rfl (by kernel_rfl) (by kernel_rfl) (by kernel_rfl) (fun _ _ _ h => h) (Or.inl ⟨by rfl, ?_⟩) (by assumption) ?_
  rotate_left 1
  · (intro w0 hSw; (try dsimp only at hSw); go_simp; try (with_reducible rfl))
  try simp only [Act.put, List.setIfInBounds_toArray, List.set_cons_succ, List.set_cons_zero]
  refine takeOp (i := 4) (v := ?_) (some 15) rfl rfl (by kernel_rfl) (by kernel_rfl) (by kernel_rfl) (fun _ _ _ h => h) (Or.inl ⟨by rfl, ?_⟩) (by assumption) ?_
  rotate_left 1
  · (intro w0 hSw; (try dsimp only at hSw); go_simp; try (with_reducible rfl))
  try simp only [Act.put, List.setIfInBounds_toArray, List.set_cons_succ, List.set_cons_zero]
  refine takeOp (i := 5) (v := ?_) (some 16) rfl rfl (by kernel_rfl) (by kernel_rfl) (by kernel_rfl) (fun _ _ _ h => h) (Or.inl ⟨by rfl, ?_⟩) (by assumption) ?_
  rotate_left 1
  · (intro w0 hSw; (try dsimp only at hSw); go_simp; try (with_reducible rfl))
  try simp only [Act.put, List.setIfInBounds_toArray, List.set_cons_succ, List.set_cons_zero]
  refine takeOp (i := 6) (v := ?_) (some 17) rfl rfl (by kernel_rfl) (by kernel_rfl) (by kernel_rfl) (fun _ _ _ h => h) (Or.inl ⟨by rfl, ?_⟩) (by assumption) ?_
  rotate_left 1
  · (intro w0 hSw; (try dsimp only at hSw); go_simp; try (with_reducible rfl))
  try simp only [Act.put, List.setIfInBounds_toArray, List.set_cons_succ, List.set_cons_zero]
  refine takeOp (i := 7) (v := ?_) (some 18) rfl rfl (by kernel_rfl) (by kernel_rfl) (by kernel_rfl) (fun _ _ _ h => h) (Or.inl ⟨by rfl, ?_⟩) (by assumption) ?_
  rotate_left 1
  · (intro w0 hSw; (try dsimp only at hSw); go_simp; try (with_reducible rfl))
  try simp only [Act.put, List.setIfInBounds_toArray, List.set_cons_succ, List.set_cons_zero]
  refine takeOp (i := 8) (v := ?_) (some 19) rfl rfl (by kernel_rfl) (by kernel_rfl) (by kernel_rfl) (fun _ _ _ h => h) (Or.inl ⟨by rfl, ?_⟩) (by assumption) ?_
  rotate_left 1
  · (intro w0 hSw; (try dsimp only at hSw); go_simp; try (with_reducible rfl))
  try simp only [Act.put, List.setIfInBounds_toArray, List.set_cons_succ, List.set_cons_zero]
  refine takeOp (i := 9) (v := ?_) (some 20) rfl rfl (by kernel_rfl) (by kernel_rfl) (by kernel_rfl) (fun _ _ _ h => h) (Or.inl ⟨by rfl, ?_⟩) (by assumption) ?_
  rotate_left 1
  · (intro w0 hSw; (try dsimp only at hSw); go_simp; try (with_reducible rfl))
  try simp only [Act.put, List.setIfInBounds_toArray, List.set_cons_succ, List.set_cons_zero]
  refine takeOp (i := 10) (v := ?_) (some 21) rfl rfl (by kernel_rfl) (by kernel_rfl) (by kernel_rfl) (fun _ _ _ h => h) (Or.inl ⟨by rfl, ?_⟩) (by assumption) ?_
  rotate_left 1
  · (intro w0 hSw; (try dsimp only at hSw); go_simp; try (with_reducible rfl))
  try simp only [Act.put, List.setIfInBounds_toArray, List.set_cons_succ, List.set_cons_zero]
  refine takeOp (i := 11) (v := ?_) (some 22) rfl rfl (by kernel_rfl) (by kernel_rfl) (by kernel_rfl) (fun _ _ _ h => h) (Or.inl ⟨by rfl, ?_⟩) (by assumption) ?_
  rotate_left 1
  · (intro w0 hSw; (try dsimp only at hSw); go_simp; try (with_reducible rfl))
  try simp only [Act.put, List.setIfInBounds_toArray, List.set_cons_succ, List.set_cons_zero]
  refine wpAnyH_ready (rs := [12]) (by kernel_rfl) (by simp) ?_
  refine AllReadyH.cons rfl (fun K hK => ?_) AllReadyH.nil
  go_simp
  obtain ⟨V1, hV⟩ : ∃ V', V' = (w.alloc (.cells #[.string ⟨#[]⟩, .slice none 0 0] 62)).drew := ⟨_, rfl⟩
  rw [← hV]
  have HV1 : Hid (Below w.heap.size w V1) := by show Below _ _ _; rw [hV]; exact ((Ext.refl w).alloc _).below.drew
  have HE1 : Hid (Row V1 w.heap.size 62 [.string ⟨#[]⟩, .slice none 0 0]) := by show Row _ _ _ _; rw [hV]; exact (Row.new w 62 [.string ⟨#[]⟩, .slice none 0 0]).drew
  clear hV
  refine hK.out _ _ (HS1.out V1 HV1.out) (fun hHeld => ?_)
  clear hK K
  try simp only [Act.put, List.setIfInBounds_toArray, List.set_cons_succ, List.set_cons_zero]
  refine wpAnyH_ready (rs := [13]) (by kernel_rfl) (by simp) ?_
  refine AllReadyH.cons rfl (fun K hK => ?_) AllReadyH.nil
  have m0 : V1.cell? ⟨w.heap.size, 0, none⟩ = some (.string ⟨#[]⟩) := HE1.out.cell 0
  have m1 : V1.cell? ⟨w.heap.size, 1, none⟩ = some (.slice none 0 0) := HE1.out.cell 1
  have m3 := HE1.out.frozen 0
  have m4 := HE1.out.frozen 1
  have m6 := HE1.out.lt
  go_simp
  obtain ⟨V2, hV⟩ : ∃ V', V' = (V1.setCell ⟨w.heap.size, 0, none⟩ (.string nm)).setCell ⟨w.heap.size, 1, none⟩ (.slice KA kl KC) := ⟨_, rfl⟩
  rw [← hV]
  have HV2 : Hid (Below w.heap.size w V2) := by show Below _ _ _; rw [hV]; exact (HV1.out.setCell (Nat.le_refl _) _).setCell (Nat.le_refl _) _
  have HE2 : Hid (Row V2 w.heap.size 62 [.string nm, .slice KA kl KC]) := by show Row _ _ _ _; rw [hV]; exact HE1.out.set2 _ _
  clear hV m0 m1 m3 m4 m6
  refine hK.out _ _ (HS1.out V2 HV2.out) (fun hHeld => ?_)
  clear hK K
  try simp only [Act.put, List.setIfInBounds_toArray, List.set_cons_succ, List.set_cons_zero]
  refine wpAnyH_done (by kernel_rfl) ?_ _
  obtain ⟨b2, hb2⟩ : ∃ b2, b2 = w.heap.size := ⟨_, rfl⟩
  obtain ⟨W1, hW1⟩ : ∃ W1, W1 = V2 := ⟨_, rfl⟩
  rw [← hb2, ← hW1] at HE2
  rw [← hW1] at HV2
  rw [← hW1, ← hb2]
  have HB2 := Lib.hid hb2
  clear hW1 hb2
  have hb2w := HE2.out.lt
  have hrw1 : rb < W1.heap.size := by have := HV2.out.size; omega
  have HS2 : Hid (∀ V, Below W1.heap.size W1 V → V.cell? ⟨rb, 3, none⟩ = some (.slice RA r.X.length RC) ∧ V.cell? ⟨b2, 1, none⟩ = some (.slice KA kl KC)) := fun V hb => ⟨HC3.out V (Below.then HV2.out hb HV2.out.size), (HE2.out.up hb).cell 1⟩
  have HSL : Hid (SlRs w.heap.size w RA r.X) := own_slrs0 HOR.out HRX.out
  have HOF : Hid (∀ V, Below W1.heap.size W1 V → Calls Tryz.prog 94 #[.int .i64 (kl : Nat), .slice RA r.X.length RC] V fun e w' => ∃ TA TC, e = .returned (.tuple #[.agg #[.int .i64 (kl : Nat), .slice TA r.X.length TC], .int .i64 0]) ∧ r.X.length ≤ TC ∧ TC ≤ 9223372036854775807 ∧ FreshRs V.heap.size w' TA r.X ∧ Below V.heap.size V w') := fun V hb => by
    have hbv := Below.then HV2.out hb HV2.out.size
    refine (rlOf_any (kl : Nat) RA RC r.X V (by omega) (by omega) ((HSL.out.below hbv (Nat.le_refl _)).more hbv.size) (HX.out.rs (by omega)) (by have := HX.out.many; omega)).mono ?_
    rintro e w' ⟨h1, -, hb'⟩
    obtain ⟨v, rfl, A, C, rfl, a1, a2, a3⟩ := h1 (wrongF_errF HX.out.ok)
    rw [RL.ofF_self HX.out.ss] at a1 a3 ⊢
    exact ⟨A, C, rfl, a1, a2, a3, hb'⟩
  clear c1 s1 hd hw1 g1 g2
  go_upto_region 2 with (fail)
  go_cut [3, 4] from 23 to 33 (fun q e wx => ∃ (g : Nat) (TA : Option Addr) (TC : Nat), q = .pointer (some ⟨g, 0, none⟩) ∧ W1.heap.size ≤ g ∧ Row wx g 56 [.int .i64 (kl : Nat), .slice TA r.X.length TC] ∧ SlRsP (fun b => W1.heap.size ≤ b) wx.heap.size wx TA r.X ∧ (r.X.length ≤ TC ∧ TC ≤ 9223372036854775807) ∧ Below W1.heap.size W1 wx)
  case first =>
    refine wp_region_held_drew (S := (fun w' => w'.cell? ⟨rb, 3, none⟩ = some (.slice RA r.X.length RC) ∧ w'.cell? ⟨b2, 1, none⟩ = some (.slice KA kl KC))) (by kernel_rfl) (HS2.out W1.drew (Below.refl _ _).drew) (fun hHeld => ?_)
    obtain ⟨V0, hV0⟩ : ∃ V, V = W1.drew := ⟨_, rfl⟩
    have HV : Hid (Below W1.heap.size W1 V0) := by show Below _ _ _; rw [hV0]; exact (Below.refl _ _).drew
    rw [← hV0] at hHeld ⊢
    clear hV0
    refine takeOp (i := 0) (v := ?_) (some 24) rfl rfl (by kernel_rfl) (by kernel_rfl) (by kernel_rfl) (fun _ _ _ h => h) (Or.inl ⟨by rfl, ?_⟩) (by assumption) ?_
    rotate_left 1
    · (intro w0 hSw; (try dsimp only at hSw); go_simp; try (with_reducible rfl))
    try simp only [Act.put, List.setIfInBounds_toArray, List.set_cons_succ, List.set_cons_zero]
    refine takeOp (i := 1) (v := ?_) (some 25) rfl rfl (by kernel_rfl) (by kernel_rfl) (by kernel_rfl) (fun _ _ _ h => h) (Or.inl ⟨by rfl, ?_⟩) (by assumption) ?_
    rotate_left 1
    · (intro w0 hSw; (try dsimp only at hSw); go_simp; try (with_reducible rfl))
    try simp only [Act.put, List.setIfInBounds_toArray, List.set_cons_succ, List.set_cons_zero]
    refine takeOp (i := 2) (v := ?_) (some 26) rfl rfl (by kernel_rfl) (by kernel_rfl) (by kernel_rfl) (fun _ _ _ h => h) (Or.inl ⟨by rfl, ?_⟩) (by assumption) ?_
    rotate_left 1
    · (intro w0 hSw; (try dsimp only at hSw); go_simp; try (with_reducible rfl))
    try simp only [Act.put, List.setIfInBounds_toArray, List.set_cons_succ, List.set_cons_zero]
    refine takeOp (i := 3) (v := ?_) (some 27) rfl rfl (by kernel_rfl) (by kernel_rfl) (by kernel_rfl) (fun _ _ _ h => h) (Or.inl ⟨by rfl, ?_⟩) (by assumption) ?_
    rotate_left 1
    · (intro w0 hSw; (try dsimp only at hSw); go_simp; try (with_reducible rfl))
    try simp only [Act.put, List.setIfInBounds_toArray, List.set_cons_succ, List.set_cons_zero]
    refine takeOp (i := 4) (v := ?_) (some 28) rfl rfl (by kernel_rfl) (by kernel_rfl) (by kernel_rfl) (fun _ _ _ h => h) (Or.inl ⟨by rfl, ?_⟩) (by assumption) ?_
    rotate_left 1
    · (intro w0 hSw; (try dsimp only at hSw); go_simp; try (with_reducible rfl))
    try simp only [Act.put, List.setIfInBounds_toArray, List.set_cons_succ, List.set_cons_zero]
    refine takeOp (i := 5) (v := ?_) (some 29) rfl rfl (by kernel_rfl) (by kernel_rfl) (by kernel_rfl) (fun _ _ _ h => h) (Or.inl ⟨by rfl, ?_⟩) (by assumption) ?_
    rotate_left 1
    · (intro w0 hSw; (try dsimp only at hSw); go_simp; try (with_reducible rfl))
    try simp only [Act.put, List.setIfInBounds_toArray, List.set_cons_succ, List.set_cons_zero]
    refine takeOp (i := 6) (v := ?_) (some 30) rfl rfl (by kernel_rfl) (by kernel_rfl) (by kernel_rfl) (fun _ _ _ h => h) (Or.inl ⟨by rfl, ?_⟩) (by assumption) ?_
    rotate_left 1
    · (intro w0 hSw; (try dsimp only at hSw); go_simp; try (with_reducible rfl))
    try simp only [Act.put, List.setIfInBounds_toArray, List.set_cons_succ, List.set_cons_zero]
    refine wpAnyH_ready (rs := [7, 11]) (by kernel_rfl) (by simp) ?_
    refine (AllReadyH.cons rfl (fun K hK => ?_) (AllReadyH.cons rfl (fun K hK => ?_) AllReadyH.nil))
    · go_simp
      go_simp
      refine (HOF.out V0 HV.out).mono ?_
      rintro e V1 ⟨TA, TC, rfl, hTC, hTM, hTX, hb⟩
      have HTX := Lib.hid hTX
      have HLOW : Hid (W1.heap.size ≤ V0.heap.size) := HV.out.size
      have HTC : Hid (r.X.length ≤ TC ∧ TC ≤ 9223372036854775807) := ⟨hTC, hTM⟩
      clear hTX hTC hTM
      go_simp
      have HWIN : Hid (WinP V0.heap.size V1 V1) := WinP.refl _ _
      have HV := Lib.hid (Below.then HV.out hb HV.out.size)
      clear hb
      go_wp2_with fail
      refine hK.out _ _ (HS2.out V1 HV.out) (fun hHeld => ?_)
      clear hK K
      try simp only [Act.put, List.setIfInBounds_toArray, List.set_cons_succ, List.set_cons_zero]
      refine takeOp (i := 8) (v := ?_) (some 23) rfl rfl (by kernel_rfl) (by kernel_rfl) (by kernel_rfl) (fun _ _ _ h => h) (Or.inl ⟨by rfl, ?_⟩) (by assumption) ?_
      rotate_left 1
      · (intro w0 hSw; (try dsimp only at hSw); go_simp; try (with_reducible rfl))
      try simp only [Act.put, List.setIfInBounds_toArray, List.set_cons_succ, List.set_cons_zero]
      refine takeOp (i := 9) (v := ?_) (some 32) rfl rfl (by kernel_rfl) (by kernel_rfl) (by kernel_rfl) (fun _ _ _ h => h) (Or.inl ⟨by rfl, ?_⟩) (by assumption) ?_
      rotate_left 1
      · (intro w0 hSw; (try dsimp only at hSw); go_simp; try (with_reducible rfl))
      try simp only [Act.put, List.setIfInBounds_toArray, List.set_cons_succ, List.set_cons_zero]
      refine takeOp (i := 10) (v := ?_) (some 33) rfl rfl (by kernel_rfl) (by kernel_rfl) (by kernel_rfl) (fun _ _ _ h => h) (Or.inl ⟨by rfl, ?_⟩) (by assumption) ?_
      rotate_left 1
      · (intro w0 hSw; (try dsimp only at hSw); go_simp; try (with_reducible rfl))
      try simp only [Act.put, List.setIfInBounds_toArray, List.set_cons_succ, List.set_cons_zero]
      refine wpAnyH_ready (rs := [11]) (by kernel_rfl) (by simp) ?_
      refine (AllReadyH.cons rfl (fun K hK => ?_) AllReadyH.nil)
      go_simp
      obtain ⟨V2, hV⟩ : ∃ V', V' = V1.alloc (.cells #[.int .i64 0, .slice none 0 0] 56) := ⟨_, rfl⟩
      rw [← hV]
      have hb : Below V1.heap.size V1 V2 := by rw [hV]; exact ((Ext.refl V1).alloc _).below
      obtain ⟨gb, hgb⟩ : ∃ gb, gb = V1.heap.size := ⟨_, rfl⟩
      have HG : Hid (Row V2 gb 56 [.int .i64 0, .slice none 0 0]) := by show Row _ _ _ _; rw [hV, hgb]; exact Row.new V1 _ _
      have HGZ : Hid (W1.heap.size ≤ gb) := by show _ ≤ _; rw [hgb]; exact HV.out.size
      have HGW0 : Hid (gb < V2.heap.size) := HG.out.lt
      have HWIN : Hid (WinP V0.heap.size V1 V2) := HWIN.out.up hb
      have HOUT : Hid (V1.heap.size ≤ gb) := by show _ ≤ _; rw [hgb]; exact Nat.le_refl _
      have HV := Lib.hid (Below.then HV.out hb HV.out.size)
      rw [← hgb]
      clear hb hV hgb
      refine hK.out _ _ (HS2.out V2 HV.out) (fun hHeld => ?_)
      clear hK K
      try simp only [Act.put, List.setIfInBounds_toArray, List.set_cons_succ, List.set_cons_zero]
      refine wpAnyH_ready (rs := [12]) (by kernel_rfl) (by simp) ?_
      refine (AllReadyH.cons rfl (fun K hK => ?_) AllReadyH.nil)
      have m0 := HG.out.frozen 0
      have n0 : V2.cell? ⟨gb, 0, none⟩ = some (.int .i64 0) := HG.out.cell 0
      have m1 := HG.out.frozen 1
      have n1 : V2.cell? ⟨gb, 1, none⟩ = some (.slice none 0 0) := HG.out.cell 1
      have m9 := HG.out.lt
      go_simp
      go_wp2_with fail
      obtain ⟨V3, hV⟩ : ∃ V', V' = ((V2.setCell ⟨gb, 0, none⟩ (.int .i64 (kl : Nat))).setCell ⟨gb, 1, none⟩ (.slice TA r.X.length TC)) := ⟨_, rfl⟩
      rw [← hV]
      have HG : Hid (Row V3 gb 56 [.int .i64 (kl : Nat), .slice TA r.X.length TC]) := by show Row _ _ _ _; rw [hV]; exact ((HG.out.set 0 _).set 1 _)
      have HWIN : Hid (WinP V0.heap.size V1 V3) := by show WinP _ _ _; rw [hV]; exact ((HWIN.out.set (Or.inr HOUT.out) 0 _).set (Or.inr HOUT.out) 1 _)
      have HV : Hid (Below W1.heap.size W1 V3) := by show Below _ _ _; rw [hV]; exact ((HV.out.setCell (by show W1.heap.size ≤ gb; exact HGZ.out) _).setCell (by show W1.heap.size ≤ gb; exact HGZ.out) _)
      clear hV m9 m0 n0 m1 n1
      refine hK.out _ _ (HS2.out V3 HV.out) (fun hHeld => ?_)
      clear hK K
      try simp only [Act.put, List.setIfInBounds_toArray, List.set_cons_succ, List.set_cons_zero]
      refine takeOp (i := 13) (v := ?_) (some 4) rfl rfl (by kernel_rfl) (by kernel_rfl) (by kernel_rfl) (fun _ _ _ h => h) (Or.inl ⟨by rfl, ?_⟩) (by assumption) ?_
      rotate_left 1
      · (intro w0 hSw; (try dsimp only at hSw); go_simp; try (with_reducible rfl))
      try simp only [Act.put, List.setIfInBounds_toArray, List.set_cons_succ, List.set_cons_zero]
      refine wpAnyH_done (by kernel_rfl) ?_ _
      go_wp2_with fail
      go_meet
      case rel => exact ⟨gb, TA, TC, rfl, HGZ.out, HG.out, (freshP HTX.out HWIN.out.2 HWIN.out.1).weak (fun b _ hb => Nat.le_trans HLOW.out hb), HTC.out, HV.out⟩
    · go_simp
      obtain ⟨V1, hV⟩ : ∃ V', V' = V0.alloc (.cells #[.int .i64 0, .slice none 0 0] 56) := ⟨_, rfl⟩
      rw [← hV]
      have hb : Below V0.heap.size V0 V1 := by rw [hV]; exact ((Ext.refl V0).alloc _).below
      obtain ⟨gb, hgb⟩ : ∃ gb, gb = V0.heap.size := ⟨_, rfl⟩
      have HG : Hid (Row V1 gb 56 [.int .i64 0, .slice none 0 0]) := by show Row _ _ _ _; rw [hV, hgb]; exact Row.new V0 _ _
      have HGZ : Hid (W1.heap.size ≤ gb) := by show _ ≤ _; rw [hgb]; exact HV.out.size
      have HGW0 : Hid (gb < V1.heap.size) := HG.out.lt
      have HV := Lib.hid (Below.then HV.out hb HV.out.size)
      rw [← hgb]
      clear hb hV hgb
      refine hK.out _ _ (HS2.out V1 HV.out) (fun hHeld => ?_)
      clear hK K
      try simp only [Act.put, List.setIfInBounds_toArray, List.set_cons_succ, List.set_cons_zero]
      refine wpAnyH_ready (rs := [7]) (by kernel_rfl) (by simp) ?_
      refine (AllReadyH.cons rfl (fun K hK => ?_) AllReadyH.nil)
      go_simp
      go_simp
      refine (HOF.out V1 HV.out).mono ?_
      rintro e V2 ⟨TA, TC, rfl, hTC, hTM, hTX, hb⟩
      have HTX := Lib.hid hTX
      have HLOW : Hid (W1.heap.size ≤ V1.heap.size) := HV.out.size
      have HTC : Hid (r.X.length ≤ TC ∧ TC ≤ 9223372036854775807) := ⟨hTC, hTM⟩
      clear hTX hTC hTM
      go_simp
      have HG := Lib.hid (HG.out.up hb)
      have HGW : Hid (gb < V1.heap.size) := by show gb < _; have := HGW0.out; omega
      have HWIN : Hid (WinP V1.heap.size V2 V2) := WinP.refl _ _
      have HV := Lib.hid (Below.then HV.out hb HV.out.size)
      clear hb
      go_wp2_with fail
      refine hK.out _ _ (HS2.out V2 HV.out) (fun hHeld => ?_)
      clear hK K
      try simp only [Act.put, List.setIfInBounds_toArray, List.set_cons_succ, List.set_cons_zero]
      refine takeOp (i := 8) (v := ?_) (some 23) rfl rfl (by kernel_rfl) (by kernel_rfl) (by kernel_rfl) (fun _ _ _ h => h) (Or.inl ⟨by rfl, ?_⟩) (by assumption) ?_
      rotate_left 1
      · (intro w0 hSw; (try dsimp only at hSw); go_simp; try (with_reducible rfl))
      try simp only [Act.put, List.setIfInBounds_toArray, List.set_cons_succ, List.set_cons_zero]
      refine takeOp (i := 9) (v := ?_) (some 32) rfl rfl (by kernel_rfl) (by kernel_rfl) (by kernel_rfl) (fun _ _ _ h => h) (Or.inl ⟨by rfl, ?_⟩) (by assumption) ?_
      rotate_left 1
      · (intro w0 hSw; (try dsimp only at hSw); go_simp; try (with_reducible rfl))
      try simp only [Act.put, List.setIfInBounds_toArray, List.set_cons_succ, List.set_cons_zero]
      refine takeOp (i := 10) (v := ?_) (some 33) rfl rfl (by kernel_rfl) (by kernel_rfl) (by kernel_rfl) (fun _ _ _ h => h) (Or.inl ⟨by rfl, ?_⟩) (by assumption) ?_
      rotate_left 1
      · (intro w0 hSw; (try dsimp only at hSw); go_simp; try (with_reducible rfl))
      try simp only [Act.put, List.setIfInBounds_toArray, List.set_cons_succ, List.set_cons_zero]
      refine wpAnyH_ready (rs := [12]) (by kernel_rfl) (by simp) ?_
      refine (AllReadyH.cons rfl (fun K hK => ?_) AllReadyH.nil)
      have m0 := HG.out.frozen 0
      have n0 : V2.cell? ⟨gb, 0, none⟩ = some (.int .i64 0) := HG.out.cell 0
      have m1 := HG.out.frozen 1
      have n1 : V2.cell? ⟨gb, 1, none⟩ = some (.slice none 0 0) := HG.out.cell 1
      have m9 := HG.out.lt
      go_simp
      go_wp2_with fail
      obtain ⟨V3, hV⟩ : ∃ V', V' = ((V2.setCell ⟨gb, 0, none⟩ (.int .i64 (kl : Nat))).setCell ⟨gb, 1, none⟩ (.slice TA r.X.length TC)) := ⟨_, rfl⟩
      rw [← hV]
      have HG : Hid (Row V3 gb 56 [.int .i64 (kl : Nat), .slice TA r.X.length TC]) := by show Row _ _ _ _; rw [hV]; exact ((HG.out.set 0 _).set 1 _)
      have HWIN : Hid (WinP V1.heap.size V2 V3) := by show WinP _ _ _; rw [hV]; exact ((HWIN.out.set (Or.inl HGW.out) 0 _).set (Or.inl HGW.out) 1 _)
      have HV : Hid (Below W1.heap.size W1 V3) := by show Below _ _ _; rw [hV]; exact ((HV.out.setCell (by show W1.heap.size ≤ gb; exact HGZ.out) _).setCell (by show W1.heap.size ≤ gb; exact HGZ.out) _)
      clear hV m9 m0 n0 m1 n1
      refine hK.out _ _ (HS2.out V3 HV.out) (fun hHeld => ?_)
      clear hK K
      try simp only [Act.put, List.setIfInBounds_toArray, List.set_cons_succ, List.set_cons_zero]
      refine takeOp (i := 13) (v := ?_) (some 4) rfl rfl (by kernel_rfl) (by kernel_rfl) (by kernel_rfl) (fun _ _ _ h => h) (Or.inl ⟨by rfl, ?_⟩) (by assumption) ?_
      rotate_left 1
      · (intro w0 hSw; (try dsimp only at hSw); go_simp; try (with_reducible rfl))
      try simp only [Act.put, List.setIfInBounds_toArray, List.set_cons_succ, List.set_cons_zero]
      refine wpAnyH_done (by kernel_rfl) ?_ _
      go_wp2_with fail
      go_meet
      case rel => exact ⟨gb, TA, TC, rfl, HGZ.out, HG.out, (freshP HTX.out HWIN.out.2 HWIN.out.1).weak (fun b _ hb => Nat.le_trans HLOW.out hb), HTC.out, HV.out⟩
  case rest =>
    obtain ⟨g, TA, TC, rfl, hgz, hrg, hsl, htc, hbx⟩ := hcut
    generalize wc = wA at *
    have HB1 := Lib.hid (Below.then HV2.out hbx HV2.out.size)
    have HRG := Lib.hid hrg
    have HSL2 := Lib.hid hsl
    have HTC := Lib.hid htc
    have HGZ := Lib.hid hgz
    have hgA := hrg.lt
    have HW1Z : Hid (w.heap.size ≤ W1.heap.size) := HV2.out.size
    have hrA : rb < wA.heap.size := by have := HB1.out.size; omega
    have hb2A : b2 < wA.heap.size := by have := hbx.size; omega
    have HKP : Hid (∀ V, Below wA.heap.size wA V → V.cell? ⟨rb, 2, none⟩ = some (.map (some mb)) ∧ V.cell? ⟨b2, 0, none⟩ = some (.string nm) ∧ V.cell? ⟨b2, 1, none⟩ = some (.slice KA kl KC) ∧ V.cell? ⟨g, 0, none⟩ = some (.int .i64 (kl : Nat)) ∧ V.cell? ⟨g, 1, none⟩ = some (.slice TA r.X.length TC)) := fun V hb =>
      ⟨HC2.out V (Below.then HB1.out hb HB1.out.size), (HE2.out.up (Below.then hbx hb hbx.size)).cell 0, (HE2.out.up (Below.then hbx hb hbx.size)).cell 1, (HRG.out.up hb).cell 0, (HRG.out.up hb).cell 1⟩
    obtain ⟨xl, hxl⟩ : ∃ xl, xl = r.X.length := ⟨_, rfl⟩
    rw [← hxl] at HKP
    have HXL := Lib.hid hxl
    clear hrg hsl htc hgz hbx hxl
    have HMA := Lib.hid (map_up HMAP.out HB1.out.drew)
    have HSZ : Hid (Maps.size D < maxLen) := by show _ < _; rw [HENT.out.1]; simp only [maxLen]; omega
    have HKEY := Lib.hid (keyS HNM.out)
    have hmr : rb < mb := HPM.out.1
    have HROA := Lib.hid (HROW.out.up HB1.out)
    go_upto_region 3 with (fail)
    refine wp_region_held_drew (S := (fun w' => w'.cell? ⟨rb, 2, none⟩ = some (.map (some mb)) ∧ w'.cell? ⟨b2, 0, none⟩ = some (.string nm) ∧ w'.cell? ⟨b2, 1, none⟩ = some (.slice KA kl KC) ∧ w'.cell? ⟨g, 0, none⟩ = some (.int .i64 (kl : Nat)) ∧ w'.cell? ⟨g, 1, none⟩ = some (.slice TA xl TC))) (by kernel_rfl) (HKP.out wA.drew (Below.refl _ _).drew) (fun hHeld => ?_)
    refine takeOp (i := 0) (v := ?_) (some 34) rfl rfl (by kernel_rfl) (by kernel_rfl) (by kernel_rfl) (fun _ _ _ h => h) (Or.inl ⟨by rfl, ?_⟩) (by assumption) ?_
    rotate_left 1
    · (intro w0 hSw; (try dsimp only at hSw); go_simp; try (with_reducible rfl))
    try simp only [Act.put, List.setIfInBounds_toArray, List.set_cons_succ, List.set_cons_zero]
    refine takeOp (i := 1) (v := ?_) (some 35) rfl rfl (by kernel_rfl) (by kernel_rfl) (by kernel_rfl) (fun _ _ _ h => h) (Or.inl ⟨by rfl, ?_⟩) (by assumption) ?_
    rotate_left 1
    · (intro w0 hSw; (try dsimp only at hSw); go_simp; try (with_reducible rfl))
    try simp only [Act.put, List.setIfInBounds_toArray, List.set_cons_succ, List.set_cons_zero]
    refine takeOp (i := 2) (v := ?_) (some 36) rfl rfl (by kernel_rfl) (by kernel_rfl) (by kernel_rfl) (fun _ _ _ h => h) (Or.inl ⟨by rfl, ?_⟩) (by assumption) ?_
    rotate_left 1
    · (intro w0 hSw; (try dsimp only at hSw); go_simp; try (with_reducible rfl))
    try simp only [Act.put, List.setIfInBounds_toArray, List.set_cons_succ, List.set_cons_zero]
    refine takeOp (i := 3) (v := ?_) (some 37) rfl rfl (by kernel_rfl) (by kernel_rfl) (by kernel_rfl) (fun _ _ _ h => h) (Or.inl ⟨by rfl, ?_⟩) (by assumption) ?_
    rotate_left 1
    · (intro w0 hSw; (try dsimp only at hSw); go_simp; try (with_reducible rfl))
    try simp only [Act.put, List.setIfInBounds_toArray, List.set_cons_succ, List.set_cons_zero]
    refine takeOp (i := 4) (v := ?_) (some 38) rfl rfl (by kernel_rfl) (by kernel_rfl) (by kernel_rfl) (fun _ _ _ h => h) (Or.inl ⟨by rfl, ?_⟩) (by assumption) ?_
    rotate_left 1
    · (intro w0 hSw; (try dsimp only at hSw); go_simp; try (with_reducible rfl))
    try simp only [Act.put, List.setIfInBounds_toArray, List.set_cons_succ, List.set_cons_zero]
    refine takeOp (i := 5) (v := ?_) (some 39) rfl rfl (by kernel_rfl) (by kernel_rfl) (by kernel_rfl) (fun _ _ _ h => h) (Or.inl ⟨by rfl, ?_⟩) (by assumption) ?_
    rotate_left 1
    · (intro w0 hSw; (try dsimp only at hSw); go_simp; try (with_reducible rfl))
    try simp only [Act.put, List.setIfInBounds_toArray, List.set_cons_succ, List.set_cons_zero]
    refine takeOp (i := 6) (v := ?_) (some 40) rfl rfl (by kernel_rfl) (by kernel_rfl) (by kernel_rfl) (fun _ _ _ h => h) (Or.inl ⟨by rfl, ?_⟩) (by assumption) ?_
    rotate_left 1
    · (intro w0 hSw; (try dsimp only at hSw); go_simp; try (with_reducible rfl))
    try simp only [Act.put, List.setIfInBounds_toArray, List.set_cons_succ, List.set_cons_zero]
    refine takeOp (i := 7) (v := ?_) (some 41) rfl rfl (by kernel_rfl) (by kernel_rfl) (by kernel_rfl) (fun _ _ _ h => h) (Or.inl ⟨by rfl, ?_⟩) (by assumption) ?_
    rotate_left 1
    · (intro w0 hSw; (try dsimp only at hSw); go_simp; try (with_reducible rfl))
    try simp only [Act.put, List.setIfInBounds_toArray, List.set_cons_succ, List.set_cons_zero]
    refine takeOp (i := 8) (v := ?_) (some 42) rfl rfl (by kernel_rfl) (by kernel_rfl) (by kernel_rfl) (fun _ _ _ h => h) (Or.inl ⟨by rfl, ?_⟩) (by assumption) ?_
    rotate_left 1
    · (intro w0 hSw; (try dsimp only at hSw); go_simp; try (with_reducible rfl))
    try simp only [Act.put, List.setIfInBounds_toArray, List.set_cons_succ, List.set_cons_zero]
    refine takeOp (i := 9) (v := ?_) (some 43) rfl rfl (by kernel_rfl) (by kernel_rfl) (by kernel_rfl) (fun _ _ _ h => h) (Or.inl ⟨by rfl, ?_⟩) (by assumption) ?_
    rotate_left 1
    · (intro w0 hSw; (try dsimp only at hSw); go_simp; try (with_reducible rfl))
    try simp only [Act.put, List.setIfInBounds_toArray, List.set_cons_succ, List.set_cons_zero]
    refine takeOp (i := 10) (v := ?_) (some 44) rfl rfl (by kernel_rfl) (by kernel_rfl) (by kernel_rfl) (fun _ _ _ h => h) (Or.inl ⟨by rfl, ?_⟩) (by assumption) ?_
    rotate_left 1
    · (intro w0 hSw; (try dsimp only at hSw); go_simp; try (with_reducible rfl))
    try simp only [Act.put, List.setIfInBounds_toArray, List.set_cons_succ, List.set_cons_zero]
    refine wpAnyH_ready (rs := [11]) (by kernel_rfl) (by simp) ?_
    refine AllReadyH.cons rfl (fun K hK => ?_) AllReadyH.nil
    refine stepUpd (w := wA.drew) rfl (.tmp 38) (.tmp 40) (.tmp 44) 26 rfl 9 99 keyedS Tryz.underlying26 mb (Maps.size D) D (by simp [Act.eval]) HMA.out HSZ.out (.string nm) (.agg #[.slice KA kl KC, .int .i64 (kl : Nat), .slice TA xl TC]) (litS nm) (by simp [Act.eval]) (by simp [Act.eval]) HKEY.out ?_
    intro V5 hown2 hg2
    have HO5 := Lib.hid hown2
    have HG5 := Lib.hid hg2
    have HRO5 : Hid (Row V5 rb 119 [.int .i64 r.line, .slice (some ⟨sb, 0, none⟩) n cap, .map (some mb), .slice RA r.X.length RC]) := HROA.out.drew.grown hg2 (by intro e; injection e with e; omega)
    have KEEP8 : V5.cell? ⟨rb, 2, none⟩ = some (.map (some mb)) ∧ V5.cell? ⟨b2, 0, none⟩ = some (.string nm) ∧ V5.cell? ⟨b2, 1, none⟩ = some (.slice KA kl KC) ∧ V5.cell? ⟨g, 0, none⟩ = some (.int .i64 (kl : Nat)) ∧ V5.cell? ⟨g, 1, none⟩ = some (.slice TA xl TC) := by
      have hk := HKP.out wA (Below.refl _ _)
      have hmb : ∀ k, k = b2 ∨ k = g → k ≠ mb := by
        have h1 := HB2.out
        have h2 := HGZ.out
        have h3 := HW1Z.out
        rintro k (rfl | rfl) <;> omega
      exact ⟨HRO5.out.cell 2, hg2.cell hk.2.1 (by show some b2 ≠ some mb; intro e; injection e with e; exact hmb _ (.inl rfl) e), hg2.cell hk.2.2.1 (by show some b2 ≠ some mb; intro e; injection e with e; exact hmb _ (.inl rfl) e), hg2.cell hk.2.2.2.1 (by show some g ≠ some mb; intro e; injection e with e; exact hmb _ (.inr rfl) e), hg2.cell hk.2.2.2.2 (by show some g ≠ some mb; intro e; injection e with e; exact hmb _ (.inr rfl) e)⟩
    clear hown2 hg2
    refine hK.out _ _ KEEP8 (fun hHeld => ?_)
    clear hK K
    try simp only [Act.put]
    try simp only [List.setIfInBounds_toArray]
    try simp only [List.set_cons_succ]
    try simp only [List.set_cons_zero]
    refine wpAnyH_done (by kernel_rfl) ?_ _
    have f1 := HRO5.out.frozen 3
    have f2 := HRO5.out.lt
    have f3 : V5.cell? ⟨rb, 3, none⟩ = some (.slice RA r.X.length RC) := HRO5.out.cell 3
    clear hgA hrA hb2A
    go_wp2_with fail
    obtain ⟨W9, hW9⟩ : ∃ W9, W9 = V5.setCell ⟨rb, 3, none⟩ (.slice none 0 0) := ⟨_, rfl⟩
    rw [← hW9]
    have hrow9 : Row W9 rb 119 [.int .i64 r.line, .slice (some ⟨sb, 0, none⟩) n cap, .map (some mb), .slice none 0 0] := by rw [hW9]; exact HRO5.out.set 3 _
    have hpm := HPM.out
    have hsz5 : wA.heap.size ≤ V5.heap.size := HG5.out.size
    have hst : Stay (fun c => c ≠ mb ∧ c ≠ rb) w W9 := by
      rw [hW9]
      exact ((Stay.of HB1.out.drew).trans (Stay.grownP HG5.out fun k hk h => by injection hk with hk; exact h.1 hk.symm)).trans (Stay.set (fun h => h.2 rfl) 3 _)
    have hst2 : Stay (fun c => RdP rb (.slice (some ⟨sb, 0, none⟩) n cap) (.slice RA r.X.length RC) c ∧ c ≠ mb) w W9 := hst.less fun k _ hk => ⟨hk.2, by have := hk.1.1; omega⟩
    have hwk : ∀ c, c < W9.heap.size → (RdP rb (.slice (some ⟨sb, 0, none⟩) n cap) (.slice RA r.X.length RC) c ∧ c ≠ mb) → RdP rb (.slice (some ⟨sb, 0, none⟩) n cap) (.slice none 0 0) c := fun c _ hc => ⟨hc.1.1, hc.1.2.1, fun e => by cases e⟩
    have hkl := HKL.out
    have hbelow : Below rb w W9 := by
      rw [hW9]
      have hz := HB1.out.size
      have h5 : Below rb w V5 := (((HB1.out.mono (by omega)).drew).grown HG5.out (by show rb ≤ wA.heap.size; omega) (fun k hk => by injection hk with hk; omega))
      exact h5.setCell (p := ⟨rb, 3, none⟩) (Nat.le_refl _) _
    refine bodyPost_end (results_none rfl _ _ _) rfl ⟨rfl, ?_, hbelow⟩
    have hem : EntM (fun c => RdP rb (.slice (some ⟨sb, 0, none⟩) n cap) (.slice RA r.X.length RC) c ∧ c ≠ mb) W9 (.agg #[.slice KA kl KC, .int .i64 (kl : Nat), .slice TA xl TC]) ks r.X := by
      have hxl := HXL.out
      subst hkl hxl
      refine ⟨KA, KC, TA, TC, rfl, hk6, (HKI.out.off HMAP.out).keep hst2, HTC.out.1, HTC.out.2, ?_, HX.out⟩
      have hrlt := HOR.out.lt
      have h1 := (HSL2.out.weak (P' := fun c => w.heap.size ≤ c) fun b _ hb => Nat.le_trans HW1Z.out hb)
      have hst3 : Stay (fun c => w.heap.size ≤ c) wA W9 := by
        rw [hW9]
        exact ((Stay.of (Below.refl _ wA).drew).trans (Stay.grownP HG5.out fun k hk h => by injection hk with hk; have h : w.heap.size ≤ k := h; omega)).trans (Stay.set (fun h => by have h : w.heap.size ≤ rb := h; omega) 3 _)
      refine (h1.stay hst3).weak fun b _ hb => ⟨⟨by omega, fun e => by injection e with e; have e : sb = b := e; omega, fun e => by have := (hrlt b e).2; omega⟩, by omega⟩
    have hput := EntsM.put (HENT.out.off HMAP.out) (HMAP.out.tidy keyedS) (nm := nm) (X := r.X) (by rw [HSS.out]; simp) hst2 (fun ks' hk' => by
      have h1 := kindsOf_mem HND.out hk'
      have h2 := kindsOf_mem HND.out (show (nm, ks) ∈ r.S by rw [HSS.out]; simp)
      have : ks' = ks := h1.symm.trans h2
      subst this
      exact hem)
    have hmap9 : W9.ownsMap Tryz.prog 9 heldR mb (Maps.size D + 1) (D.put (litS nm) (.held (.agg #[.slice KA kl KC, .int .i64 (kl : Nat), .slice TA xl TC]))) := by
      rw [hW9]
      exact map_keep (P := fun c => c ≠ rb) HO5.out (by show mb ≠ rb; omega) (Stay.set (fun h => h rfl) 3 _)
    refine ⟨.slice (some ⟨sb, 0, none⟩) n cap, .slice none 0 0, .map (some mb), sc, [], hrow9, ?_, ?_, own_nil _ _ _ _, Hdrs.nil, .inr ⟨?_, ?_⟩⟩
    · have h := own_stay HOS.out hst fun g' hg' => by
        injection hg' with hg'
        have hg' : sb = g' := hg'
        subst hg'
        exact ⟨fun e => hpm.2.1 (by rw [← e]; rfl), by omega⟩
      rw [HNN.out] at h
      rw [HNN.out]
      exact h
    · have hoff : SchCs (fun c => RdP rb (.slice (some ⟨sb, 0, none⟩) n cap) (.slice RA r.X.length RC) c ∧ c ≠ mb) w r.S sc := ⟨HSC.out.len, HSC.out.one, fun i hi => by obtain ⟨a1, a2, a3, a4, a5⟩ := HSC.out.at_ i hi; exact ⟨a1, a2, a3, a4, a5.off HMAP.out⟩⟩
      exact (hoff.keep hst2).weak hwk
    · show r.S ≠ []
      rw [HSS.out]; simp
    · exact (hput.weak hwk).db ⟨hmr, hpm.2.1, fun e => by cases e⟩ (map_tight hmap9)

theorem rdClose_any {rb : Nat} {w : World} {r : Rd} (h : RdM rb w r) (ok : RdOk r) : Calls Tryz.prog 64 #[.pointer (some ⟨rb, 0, none⟩)] w fun e w' => e = .returned (.tuple #[]) ∧ RdM rb w' (closeRd r) ∧ Below rb w w' := by
  rcases List.eq_nil_or_concat r.S with hS | ⟨S0, p, hS⟩
  · refine (rdClose_nil h hS).mono ?_
    rintro e w' ⟨h1, rfl⟩
    refine ⟨h1, ?_, Below.refl _ _⟩
    have : closeRd r = r := by unfold closeRd; rw [hS]; rfl
    rw [this]; exact h
  · obtain ⟨nm, ks⟩ := p
    have hS : r.S = S0 ++ [(nm, ks)] := by simpa using hS
    have hlast : r.S.getLast? = some (nm, ks) := by rw [hS]; simp
    obtain ⟨hl, hnd, hm⟩ := errS_mem ok.err
    obtain ⟨h1, h2, h3⟩ := hm (nm, ks) (by rw [hS]; simp)
    have hsz : nm.size ≤ 16 := by
      have h1 : nameF nm = true := h1
      unfold nameF at h1
      simp only [Bool.and_eq_true, decide_eq_true_eq] at h1
      exact h1.1.2
    refine (rdClose_some h hS hnd (by omega) (ok.last _ hlast) h2 (by simp only [maxLen]; omega)).mono ?_
    rintro e w' ⟨g1, g2, g3⟩
    refine ⟨g1, ?_, g3⟩
    have : closeRd r = { r with F := updC r.F nm r.X, X := [] } := by unfold closeRd; rw [hlast]
    rw [this]; exact g2
end
section
open Go.RowKit Go.Sort Go.ChangeMaps Go.WideShapes

def LinePost (rb : Nat) (q : Int × Rd) (w : World) (e : Ending) (w' : World) : Prop :=
  (q.1 = 0 → e = .returned (.tuple #[]) ∧ RdM rb w' q.2) ∧ (q.1 ≠ 0 → e = .panicked [{ v := failV q.2.line q.1, recovered := false }]) ∧ Below rb w w'
theorem LinePost.bad {rb : Nat} {q : Int × Rd} {w w' : World} {k : Int} (h1 : q.1 = k) (hk : k ≠ 0) (hb : Below rb w w') {l : Int} (hl : q.2.line = l) : LinePost rb q w (.panicked [{ v := failV l k, recovered := false }]) w' :=
  ⟨fun h => absurd (h1.symm.trans h) hk, fun _ => by rw [hl, h1], hb⟩

theorem RdM_row {rb n sb cap : Nat} {w V w5 W9 : World} {r : Rd} {sc hs0 : List Value} {A A9 RA : Option Addr} {C C9 RC mb : Nat} {x : RL.R} {o : Obj}
    (hS0 : r.S ≠ []) (hrl : rb < w.heap.size) (hsbw : sb < w.heap.size) (hn : n = r.S.length) (hos : w.ownsRow (rb + 1) 62 2 (.slice (some ⟨sb, 0, none⟩) n cap) n sc)
    (hsc : SchCs (RdP rb (.slice (some ⟨sb, 0, none⟩) n cap) (.slice RA r.X.length RC)) w r.S sc) (hor : w.ownsRow (rb + 1) 42 1 (.slice RA r.X.length RC) r.X.length hs0)
    (hhd : Hdrs (RdP rb (.slice (some ⟨sb, 0, none⟩) n cap) (.slice RA r.X.length RC)) w.heap.size w hs0 r.X) (hdb : DbM (RdP rb (.slice (some ⟨sb, 0, none⟩) n cap) (.slice RA r.X.length RC)) r.S w (.map (some mb)) r.F)
    (hbV : Below w.heap.size w V) (hsx : SlR V.heap.size V A x) (hfr : ∀ ad, A = some ad → w.heap.size ≤ ad.block) (hxc : x.length ≤ C ∧ C ≤ 9223372036854775807)
    (k1 : w5.ownsRow (rb + 1) 42 1 (.slice A9 (r.X.length + 1) C9) (r.X.length + 1) (hs0 ++ [.slice A x.length C])) (k2 : (V.alloc o).grownBy w5 (Value.slice RA r.X.length RC).ownBlock)
    (k3 : (Value.slice A9 (r.X.length + 1) C9).ownBlock = (Value.slice RA r.X.length RC).ownBlock ∨ (Value.slice A9 (r.X.length + 1) C9).ownBlock = some (V.alloc o).heap.size) (hW9 : W9 = w5.setCell ⟨rb, 3, none⟩ (.slice A9 (r.X.length + 1) C9))
    (hrow9 : Row W9 rb 119 [.int .i64 r.line, .slice (some ⟨sb, 0, none⟩) n cap, .map (some mb), .slice A9 (r.X.length + 1) C9]) : RdM rb W9 { r with X := r.X ++ [x] } := by
  have hold := hor.lt
  have hz : (V.alloc o).heap.size = V.heap.size + 1 := by simp
  have hvz := hbV.size
  have hgrow : Stay (fun c => (Value.slice RA r.X.length RC).ownBlock ≠ some c ∧ c ≠ rb) V W9 := by
    rw [hW9]
    exact ((Stay.of ((Ext.refl V).alloc o).below).trans (Stay.grownP k2 fun k hk h => h.1 hk)).trans (Stay.set (fun h => h.2 rfl) 3 _)
  have hst : Stay (fun c => (Value.slice RA r.X.length RC).ownBlock ≠ some c ∧ c ≠ rb) w W9 := (Stay.of hbV).trans hgrow
  have hst2 : Stay (fun c => RdP rb (.slice (some ⟨sb, 0, none⟩) n cap) (.slice RA r.X.length RC) c ∧ c < V.heap.size) w W9 := hst.less fun k _ h => ⟨h.1.2.2, by have := h.1.1; omega⟩
  have hin : ∀ c, c < w.heap.size → RdP rb (.slice (some ⟨sb, 0, none⟩) n cap) (.slice RA r.X.length RC) c → RdP rb (.slice (some ⟨sb, 0, none⟩) n cap) (.slice RA r.X.length RC) c ∧ c < V.heap.size := fun c hc h => ⟨h, by omega⟩
  have hnew : ∀ c, c < V.heap.size → (Value.slice RA r.X.length RC).ownBlock ≠ some c → (Value.slice A9 (r.X.length + 1) C9).ownBlock ≠ some c := fun c hc h e => by
    rcases k3 with k3 | k3
    · rw [k3] at e; exact h e
    · rw [k3, hz] at e; injection e with e; omega
  have hwk : ∀ c, c < W9.heap.size → (RdP rb (.slice (some ⟨sb, 0, none⟩) n cap) (.slice RA r.X.length RC) c ∧ c < V.heap.size) → RdP rb (.slice (some ⟨sb, 0, none⟩) n cap) (.slice A9 (r.X.length + 1) C9) c := fun c _ h => ⟨h.1.1, h.1.2.1, hnew c h.2 h.1.2.2⟩
  refine ⟨.slice (some ⟨sb, 0, none⟩) n cap, .slice A9 (r.X.length + 1) C9, .map (some mb), sc, hs0 ++ [.slice A x.length C], hrow9, ?_, ((hsc.weak hin).keep hst2).weak hwk, ?_, ?_, .inr ⟨hS0, ((hdb.weak hin).keep hst2).weak hwk⟩⟩
  · rw [← hn]
    exact own_stay hos hst fun g hg => ⟨own_parts hos hor (by decide) g hg, by have := (hos.lt g hg).1; omega⟩
  · have h5 : W9.ownsRow (rb + 1) 42 1 (.slice A9 (r.X.length + 1) C9) (r.X.length + 1) (hs0 ++ [.slice A x.length C]) := by
      rw [hW9]
      exact own_stay k1 (P := fun c => c ≠ rb) (Stay.set (fun h => h rfl) 3 _) fun g hg => by have := (k1.lt g hg).1; omega
    rw [show (r.X ++ [x]).length = r.X.length + 1 by simp]
    exact h5
  · have h1 := (((hhd.weak hin).stay hst2)).weak hwk
    refine h1.append (Hdrs.one ?_)
    have hx : HR (fun c => w.heap.size ≤ c) V.heap.size V (.slice A x.length C) x := ⟨A, C, rfl, hxc.1, hxc.2, hsx, fun _ ad e => hfr ad e⟩
    have hx2 : HR (fun c => w.heap.size ≤ c ∧ c < V.heap.size) V.heap.size V (.slice A x.length C) x := hx.weak fun b hb h => ⟨h, hb⟩
    refine ((hx2.keep (w' := W9) fun p hp hP => World.cell?_of_block (hgrow.2 p.block hp ⟨fun e => ?_, by have := hP.1; omega⟩)).more hgrow.1).weak fun b _ hb => ⟨by omega, fun e => by injection e with e; have e : sb = b := e; omega, hnew b hb.2 fun e => by have := (hold b e).2; omega⟩
    have := (hold _ e).2
    have := hP.1
    omega

set_option maxHeartbeats 4000000 in
theorem rdRow_any {rb : Nat} {w : World} {r : Rd} {S0 : Sch} {nm : ByteArray} {ks : List Int} (h : RdM rb w r) (ok : RdOk r) (hS : r.S = S0 ++ [(nm, ks)]) (s : ByteArray) (hs : s.size ≤ 1000000) (hT : Tabs w) :
    Calls Tryz.prog 62 #[.pointer (some ⟨rb, 0, none⟩), .string s] w (LinePost rb (rowRd r s.data.toList) w) := by
  obtain ⟨vs, vr, m, sc, hs0, hrow, hown, hsc, hownr, hhd, hm⟩ := h
  obtain ⟨hSl, hnd, hmem⟩ := errS_mem ok.err
  obtain ⟨hnm, hk6, -⟩ := hmem (nm, ks) (by rw [hS]; simp)
  have hX := ok.last (nm, ks) (by rw [hS]; simp)
  obtain ⟨n, hn⟩ : ∃ n, n = r.S.length := ⟨_, rfl⟩
  obtain ⟨j, hj⟩ : ∃ j, j = S0.length := ⟨_, rfl⟩
  have hnj : n = j + 1 := by rw [hn, hS, hj]; simp
  rw [← hn] at hown hSl
  obtain ⟨sb, cap, rfl, hsb, hsbw⟩ := hown.form (by omega)
  obtain ⟨RA, RC, rfl, hRC, hRM, -⟩ := own_cut hownr (by decide)
  have hS0 : r.S ≠ [] := by rw [hS]; simp
  obtain ⟨mb, rfl, hdb⟩ : ∃ b, m = .map (some b) ∧ DbM (RdP rb (.slice (some ⟨sb, 0, none⟩) n cap) (.slice RA r.X.length RC)) r.S w (.map (some b)) r.F := by
    rcases hm with ⟨h0, -⟩ | ⟨-, h1⟩
    · exact absurd h0 hS0
    · obtain ⟨b, rfl⟩ := h1.form
      exact ⟨b, rfl, h1⟩
  obtain ⟨KA, KC, s0, -, -⟩ := hsc.at_ j (by rw [← hn]; omega)
  have hat : r.S[j]'(by rw [← hn]; omega) = (nm, ks) := by simp [hS, hj]
  rw [hat] at s0
  have s0 : sc[j * 2]? = some (.string nm) := s0
  have s0 : w.cell? ⟨sb, j * 2, none⟩ = some (.string nm) := by have := hown.cells rfl _ _ s0; rwa [Addr.add_lit, Nat.zero_add] at this
  have c1 : w.cell? ⟨rb, 1, none⟩ = some (.slice (some ⟨sb, 0, none⟩) n cap) := hrow.cell 1
  have c2 : w.cell? ⟨rb, 2, none⟩ = some (.map (some mb)) := hrow.cell 2
  have c3 : w.cell? ⟨rb, 3, none⟩ = some (.slice RA r.X.length RC) := hrow.cell 3
  have hrl := hrow.lt
  have HS1 : Hid (∀ V, Below w.heap.size w V → V.cell? ⟨rb, 1, none⟩ = some (.slice (some ⟨sb, 0, none⟩) n cap) ∧ V.cell? ⟨sb, j * 2, none⟩ = some (.string nm)) := fun V hb => ⟨cell_below hb c1, cell_below hb s0⟩
  have HC3 : Hid (∀ V, Below w.heap.size w V → V.cell? ⟨rb, 3, none⟩ = some (.slice RA r.X.length RC)) := fun V hb => cell_below hb c3
  have HC2 : Hid (∀ V, Below w.heap.size w V → V.cell? ⟨rb, 2, none⟩ = some (.map (some mb))) := fun V hb => cell_below hb c2
  have hw1 : IntKind.i64.wrap ((n : Int) - 1) = (j : Int) := by rw [IntWalk.i64_in _ (by omega)]; omega
  have g1 : (0 : Int) ≤ (j : Int) := by omega
  have g2 : (j : Int) < (n : Int) := by omega
  have HHD := Lib.hid hhd
  have HOR := Lib.hid hownr
  have HOS := Lib.hid hown
  have HSC := Lib.hid hsc
  have HDB := Lib.hid hdb
  have HROW := Lib.hid hrow
  have HRC : Hid (r.X.length ≤ RC ∧ RC ≤ 9223372036854775807) := ⟨hRC, hRM⟩
  have HX := Lib.hid hX
  have HND := Lib.hid hnd
  have HSS := Lib.hid hS
  have HNM := Lib.hid hnm
  have HNN := Lib.hid hn
  have HNJ := Lib.hid hnj
  have HJ := Lib.hid hj
  have HPA := Lib.hid (rwParse_any s hs w hT)
  have HLS : Hid (s.data.toList.length ≤ 1000000) := by show _ ≤ _; rw [← Lib.size_eq]; exact hs
  have HPL : Hid (∀ o, parseR s.data.toList = o → rowRd r s.data.toList = match o with
    | none => (15, r)
    | some x => if checkF r.S nm x ≠ 0 then (checkF r.S nm x, r) else if 4096 ≤ r.X.length then (11, r) else if (match r.X.getLast? with | none => false | some y => decide (0 ≤ RL.cmpR y x)) then (16, r) else (0, { r with X := r.X ++ [x] })) := fun o ho => by
    have hlast : (r.S.getLastD (⟨#[]⟩, [])) = (nm, ks) := by rw [hS]; simp
    unfold rowRd
    rw [ho, hlast]
    cases o <;> rfl
  clear hrow hown hsc hownr hhd hm hdb hat c1 c2 c3 s0 hX hnd hS hnm hn hnj hj hRC hRM hS0 ok hmem hT
  go_enter Tryz.func62, Tryz.ntmps62
  go_wp2_with fail
  refine HPA.out.mono ?_
  intro e w1 hpost
  cases hp : parseR s.data.toList with
  | none =>
    rw [hp] at hpost
    obtain ⟨-, h2, hb⟩ := hpost
    obtain rfl := h2 rfl
    have HR := HPL.out none hp
    have HRES : Hid (rowRd r s.data.toList = (15, r)) := HR
    have HB := Lib.hid hb
    have HRO1 := Lib.hid (HROW.out.up hb)
    clear hp HR hb h2
    go_wp2_with fail
    refine (rdFail_any HRO1.out).mono ?_
    rintro e w2 ⟨rfl, rfl⟩
    go_wp2_with fail
    exact ⟨rfl, LinePost.bad (by rw [HRES.out]) (by decide) (HB.out.mono (by omega)) (by rw [HRES.out])⟩
  | some x =>
    rw [hp] at hpost
    obtain ⟨h1, -, hb⟩ := hpost
    obtain ⟨A, C, rfl, hxC, hCm, hsl, hfr⟩ := h1 x rfl
    obtain ⟨htx, hall⟩ := parseR_conv hp
    have hxl : x.length ≤ 1000000 := by
      cases x with
      | nil => simp
      | cons v t =>
        have h3 := commaV_len0 hall
        have h4 := HLS.out
        rw [← htx] at h4
        unfold textR at h4
        simp only [List.length_cons, List.length_append, List.length_nil] at h4 ⊢
        omega
    have hstr : ∀ v ∈ x, v.str.size ≤ 9223372036854775807 := fun v hv => by
      rcases validV_cases (hall v hv).1 with ⟨-, e⟩ | ⟨-, -, e⟩
      · rw [e]; exact Nat.zero_le _
      · omega
    have HPX : Hid (rowRd r s.data.toList = if checkF r.S nm x ≠ 0 then (checkF r.S nm x, r) else if 4096 ≤ r.X.length then (11, r) else if (match r.X.getLast? with | none => false | some y => decide (0 ≤ RL.cmpR y x)) then (16, r) else (0, { r with X := r.X ++ [x] })) := HPL.out (some x) hp
    have HB := Lib.hid hb
    have HRO1 := Lib.hid (HROW.out.up hb)
    have HSLX := Lib.hid hsl
    have HFR := Lib.hid hfr
    have HXC : Hid (x.length ≤ C ∧ C ≤ 9223372036854775807) := ⟨hxC, hCm⟩
    have HCH := Lib.hid (ctCheck_any (P := RdP rb (.slice (some ⟨sb, 0, none⟩) n cap) (.slice RA r.X.length RC)) (S := r.S) (m := .map (some mb)) (F := r.F) false nm A C x w1.drew (HDB.out.up hb.drew) (by have h5 := HNM.out; unfold nameF at h5; simp only [Bool.and_eq_true, decide_eq_true_eq] at h5; omega) hsl hxl hstr)
    have HST1 := Lib.hid (HS1.out w1.drew hb.drew)
    have q2 := HC2.out w1.drew hb.drew
    have hz1 := hb.size
    clear hp h1 hb htx hall hstr hsl hfr hxC hCm HPL HPA
    go_upto_region 3 with (fail)
    refine wp_region_held_drew (S := (fun w' => w'.cell? ⟨rb, 1, none⟩ = some (.slice (some ⟨sb, 0, none⟩) n cap) ∧ w'.cell? ⟨sb, j * 2, none⟩ = some (.string nm))) (by kernel_rfl) HST1.out (fun hHeld => ?_)
    refine takeOp (i := 0) (v := ?_) (some 19) rfl rfl (by kernel_rfl) (by kernel_rfl) (by kernel_rfl) (fun _ _ _ h => h) (Or.inl ⟨by rfl, ?_⟩) (by assumption) ?_
    rotate_left 1
    · (intro w0 hSw; (try dsimp only at hSw); go_simp; try (with_reducible rfl))
    try simp only [Act.put, List.setIfInBounds_toArray, List.set_cons_succ, List.set_cons_zero]
    refine takeOp (i := 1) (v := ?_) (some 20) rfl rfl (by kernel_rfl) (by kernel_rfl) (by kernel_rfl) (fun _ _ _ h => h) (Or.inl ⟨by rfl, ?_⟩) (by assumption) ?_
    rotate_left 1
    · (intro w0 hSw; (try dsimp only at hSw); go_simp; try (with_reducible rfl))
    try simp only [Act.put, List.setIfInBounds_toArray, List.set_cons_succ, List.set_cons_zero]
    refine takeOp (i := 2) (v := ?_) (some 21) rfl rfl (by kernel_rfl) (by kernel_rfl) (by kernel_rfl) (fun _ _ _ h => h) (Or.inl ⟨by rfl, ?_⟩) (by assumption) ?_
    rotate_left 1
    · (intro w0 hSw; (try dsimp only at hSw); go_simp; try (with_reducible rfl))
    try simp only [Act.put, List.setIfInBounds_toArray, List.set_cons_succ, List.set_cons_zero]
    refine takeOp (i := 3) (v := ?_) (some 22) rfl rfl (by kernel_rfl) (by kernel_rfl) (by kernel_rfl) (fun _ _ _ h => h) (Or.inl ⟨by rfl, ?_⟩) (by assumption) ?_
    rotate_left 1
    · (intro w0 hSw; (try dsimp only at hSw); go_simp; try (with_reducible rfl))
    try simp only [Act.put, List.setIfInBounds_toArray, List.set_cons_succ, List.set_cons_zero]
    refine takeOp (i := 4) (v := ?_) (some 23) rfl rfl (by kernel_rfl) (by kernel_rfl) (by kernel_rfl) (fun _ _ _ h => h) (Or.inl ⟨by rfl, ?_⟩) (by assumption) ?_
    rotate_left 1
    · (intro w0 hSw; (try dsimp only at hSw); go_simp; try (with_reducible rfl))
    try simp only [Act.put, List.setIfInBounds_toArray, List.set_cons_succ, List.set_cons_zero]
    refine takeOp (i := 5) (v := ?_) (some 24) rfl rfl (by kernel_rfl) (by kernel_rfl) (by kernel_rfl) (fun _ _ _ h => h) (Or.inl ⟨by rfl, ?_⟩) (by assumption) ?_
    rotate_left 1
    · (intro w0 hSw; (try dsimp only at hSw); go_simp; try (with_reducible rfl))
    try simp only [Act.put, List.setIfInBounds_toArray, List.set_cons_succ, List.set_cons_zero]
    refine takeOp (i := 6) (v := ?_) (some 25) rfl rfl (by kernel_rfl) (by kernel_rfl) (by kernel_rfl) (fun _ _ _ h => h) (Or.inl ⟨by rfl, ?_⟩) (by assumption) ?_
    rotate_left 1
    · (intro w0 hSw; (try dsimp only at hSw); go_simp; try (with_reducible rfl))
    try simp only [Act.put, List.setIfInBounds_toArray, List.set_cons_succ, List.set_cons_zero]
    refine takeOp (i := 7) (v := ?_) (some 26) rfl rfl (by kernel_rfl) (by kernel_rfl) (by kernel_rfl) (fun _ _ _ h => h) (Or.inl ⟨by rfl, ?_⟩) (by assumption) ?_
    rotate_left 1
    · (intro w0 hSw; (try dsimp only at hSw); go_simp; try (with_reducible rfl))
    try simp only [Act.put, List.setIfInBounds_toArray, List.set_cons_succ, List.set_cons_zero]
    refine takeOp (i := 8) (v := ?_) (some 27) rfl rfl (by kernel_rfl) (by kernel_rfl) (by kernel_rfl) (fun _ _ _ h => h) (Or.inl ⟨by rfl, ?_⟩) (by assumption) ?_
    rotate_left 1
    · (intro w0 hSw; (try dsimp only at hSw); go_simp; try (with_reducible rfl))
    try simp only [Act.put, List.setIfInBounds_toArray, List.set_cons_succ, List.set_cons_zero]
    refine takeOp (i := 9) (v := ?_) (some 28) rfl rfl (by kernel_rfl) (by kernel_rfl) (by kernel_rfl) (fun _ _ _ h => h) (Or.inl ⟨by rfl, ?_⟩) (by assumption) ?_
    rotate_left 1
    · (intro w0 hSw; (try dsimp only at hSw); go_simp; try (with_reducible rfl))
    try simp only [Act.put, List.setIfInBounds_toArray, List.set_cons_succ, List.set_cons_zero]
    refine takeOp (i := 10) (v := ?_) (some 29) rfl rfl (by kernel_rfl) (by kernel_rfl) (by kernel_rfl) (fun _ _ _ h => h) (Or.inl ⟨by rfl, ?_⟩) (by assumption) ?_
    rotate_left 1
    · (intro w0 hSw; (try dsimp only at hSw); go_simp; try (with_reducible rfl))
    try simp only [Act.put, List.setIfInBounds_toArray, List.set_cons_succ, List.set_cons_zero]
    refine takeOp (i := 11) (v := ?_) (some 30) rfl rfl (by kernel_rfl) (by kernel_rfl) (by kernel_rfl) (fun _ _ _ h => h) (Or.inl ⟨by rfl, ?_⟩) (by assumption) ?_
    rotate_left 1
    · (intro w0 hSw; (try dsimp only at hSw); go_simp; try (with_reducible rfl))
    try simp only [Act.put, List.setIfInBounds_toArray, List.set_cons_succ, List.set_cons_zero]
    refine takeOp (i := 12) (v := ?_) (some 31) rfl rfl (by kernel_rfl) (by kernel_rfl) (by kernel_rfl) (fun _ _ _ h => h) (Or.inl ⟨by rfl, ?_⟩) (by assumption) ?_
    rotate_left 1
    · (intro w0 hSw; (try dsimp only at hSw); go_simp; try (with_reducible rfl))
    try simp only [Act.put, List.setIfInBounds_toArray, List.set_cons_succ, List.set_cons_zero]
    refine takeOp (i := 13) (v := ?_) (some 6) rfl rfl (by kernel_rfl) (by kernel_rfl) (by kernel_rfl) (fun _ _ _ h => h) (Or.inl ⟨by rfl, ?_⟩) (by assumption) ?_
    rotate_left 1
    · (intro w0 hSw; (try dsimp only at hSw); go_simp; try (with_reducible rfl))
    try simp only [Act.put, List.setIfInBounds_toArray, List.set_cons_succ, List.set_cons_zero]
    refine wpAnyH_done (by kernel_rfl) ?_ _
    obtain ⟨V1, hV1⟩ : ∃ V, V = w1.drew := ⟨_, rfl⟩
    have HB1 : Hid (Below w.heap.size w V1) := by show Below _ _ _; rw [hV1]; exact HB.out.drew
    have HRO2 : Hid (Row V1 rb 119 [.int .i64 r.line, .slice (some ⟨sb, 0, none⟩) n cap, .map (some mb), .slice RA r.X.length RC]) := by show Row _ _ _ _; rw [hV1]; exact HRO1.out
    have HSX : Hid (SlR V1.heap.size V1 A x) := by show SlR _ _ _ _; rw [hV1]; exact HSLX.out
    rw [← hV1] at HCH q2 ⊢
    have hrl1 : rb < V1.heap.size := HRO2.out.lt
    clear hV1 HST1 HSLX HRO1 HB hw1 g1 g2
    go_wp2_with fail
    refine HCH.out.mono ?_
    rintro e w2 ⟨rfl, hx2⟩
    have HB2 := Lib.hid (Below.then HB1.out hx2.below HB1.out.size)
    have HRO3 := Lib.hid (HRO2.out.up hx2.below)
    have HSX2 := Lib.hid ((HSX.out.below hx2.below (Nat.le_refl _)).more hx2.size)
    have HZ2 : Hid (w1.heap.size ≤ w2.heap.size ∨ True) := Or.inr trivial
    clear hx2 q2 HCH hrl1 HRO2 HB1 HSX
    by_cases hce : checkF r.S nm x = 0
    rotate_left
    · have HRES : Hid (rowRd r s.data.toList = (checkF r.S nm x, r)) := by show _ = _; rw [HPX.out, if_pos hce]
      have HNE : Hid (checkF r.S nm x ≠ 0) := hce
      have hne : (checkF r.S nm x != 0) = true := by simpa using hce
      clear hce HPX
      generalize checkF r.S nm x = ce at *
      go_wp2_with fail
      refine (rdFail_any HRO3.out).mono ?_
      rintro e w3 ⟨rfl, rfl⟩
      go_wp2_with fail
      exact ⟨rfl, LinePost.bad (by rw [HRES.out]) HNE.out (HB2.out.mono (by omega)) (by rw [HRES.out])⟩
    have HPX2 : Hid (rowRd r s.data.toList = if 4096 ≤ r.X.length then (11, r) else if (match r.X.getLast? with | none => false | some y => decide (0 ≤ RL.cmpR y x)) then (16, r) else (0, { r with X := r.X ++ [x] })) := by show _ = _; rw [HPX.out, if_neg (by simpa using hce)]
    rw [hce]
    have q3 : w2.cell? ⟨rb, 3, none⟩ = some (.slice RA r.X.length RC) := HRO3.out.cell 3
    have hrl2 := HRO3.out.lt
    clear hce HPX
    by_cases hfull : 4096 ≤ r.X.length
    · have hd : decide ((4096 : Int) ≤ (r.X.length : Int)) = true := decide_eq_true (by omega)
      have HRES : Hid (rowRd r s.data.toList = (11, r)) := by show _ = _; rw [HPX2.out, if_pos hfull]
      clear hfull HPX2
      go_wp2_with fail
      refine (rdFail_any HRO3.out).mono ?_
      rintro e w3 ⟨rfl, rfl⟩
      go_wp2_with fail
      exact ⟨rfl, LinePost.bad (by rw [HRES.out]) (by decide) (HB2.out.mono (by omega)) (by rw [HRES.out])⟩
    have hd : decide ((4096 : Int) ≤ (r.X.length : Int)) = false := decide_eq_false (by omega)
    have HPX3 : Hid (rowRd r s.data.toList = if (match r.X.getLast? with | none => false | some y => decide (0 ≤ RL.cmpR y x)) then (16, r) else (0, { r with X := r.X ++ [x] })) := by show _ = _; rw [HPX2.out, if_neg hfull]
    have HLEN : Hid (r.X.length < 4096) := by show _ < _; omega
    clear hfull HPX2
    have HNRB : Hid (some rb ≠ (Value.slice RA r.X.length RC).ownBlock) := fun e => by have := (HOR.out.lt rb e.symm).1; omega
    have HS0 : Hid (r.S ≠ []) := by show _ ≠ _; rw [HSS.out]; simp
    by_cases hX0 : r.X = []
    · have hd0 : decide ((0 : Int) < (r.X.length : Int)) = false := decide_eq_false (by rw [hX0]; simp)
      have hd1 : decide (0 < r.X.length) = false := decide_eq_false (by rw [hX0]; simp)
      have hd2 : ¬ 0 < r.X.length := by rw [hX0]; simp
      have HRES : Hid (rowRd r s.data.toList = (0, { r with X := r.X ++ [x] })) := by show _ = _; rw [HPX3.out, hX0]; rfl
      clear hX0 HPX3
      have HOV := Lib.hid (own_stay HOR.out (Stay.of (P := fun _ => True) HB2.out) fun _ _ => trivial)
      have HOVA := Lib.hid (fun (o : Obj) => HOV.out.alloc o)
      have q4 : w2.cell? ⟨rb, 3, none⟩ = some (.slice RA r.X.length RC) := HRO3.out.cell 3
      have hrl5 := HRO3.out.lt
      have HROA := Lib.hid (fun (o : Obj) => HRO3.out.alloc o)
      go_wp2_with (at_builtin; refine appH1 rfl (.tmp 75) (.tmp 77) rfl (rb + 1) (.slice RA r.X.length RC) r.X.length hs0 rfl (HOVA.out _) w2.heap.size (.slice A x.length C) rfl (by go_simp) rfl (by have := HLEN.out; omega) (by simp; omega) ?_; intro v5 w5 k1 k2 k3; obtain ⟨A9, C9, rfl, k4, k5, -⟩ := own_cut k1 (by decide); have HRO5 := Lib.hid ((HROA.out _).grown k2 (HNRB.out)); have f1 := HRO5.out.frozen 3; have f2 := HRO5.out.lt; have f3 := HRO5.out.cell 3; simp only [List.getElem?_cons_zero, List.getElem?_cons_succ] at f3; have HK1 := Lib.hid k1; have HK2 := Lib.hid k2; have HK3 := Lib.hid k3; clear k1 k2 k3 k4 k5 q4 hrl5)
      obtain ⟨W9, hW9⟩ : ∃ W9, W9 = w5.setCell ⟨rb, 3, none⟩ (.slice A9 (r.X.length + 1) C9) := ⟨_, rfl⟩
      rw [← hW9]
      have hrow9 : Row W9 rb 119 [.int .i64 r.line, .slice (some ⟨sb, 0, none⟩) n cap, .map (some mb), .slice A9 (r.X.length + 1) C9] := by rw [hW9]; exact HRO5.out.set 3 _
      refine bodyPost_end (results_none rfl _ _ _) rfl ⟨fun _ => ⟨rfl, ?_⟩, fun h => absurd (by rw [HRES.out]) h, ?_⟩
      · rw [HRES.out]
        exact RdM_row HS0.out (by omega) hsbw HNN.out HOS.out HSC.out HOR.out HHD.out HDB.out HB2.out HSX2.out HFR.out HXC.out HK1.out HK2.out HK3.out hW9 hrow9
      · rw [hW9]
        have hz9 := HB2.out.size
        have h5 : Below rb w w5 := ((HB2.out.mono (by omega)).alloc (by omega) _).grown HK2.out (by rw [World.size_alloc]; omega) (fun k hk => by have := (HOR.out.lt k hk).1; omega)
        exact h5.setCell (p := ⟨rb, 3, none⟩) (Nat.le_refl _) _
    · have hlp : 0 < r.X.length := List.length_pos_iff.2 hX0
      obtain ⟨k, hk⟩ : ∃ k, r.X.length = k + 1 := ⟨r.X.length - 1, by omega⟩
      obtain ⟨gb, cap2, he, hgb, hgw⟩ := HOR.out.form hlp
      injection he with he1 he2 he3
      subst he1
      have hkl : k < r.X.length := by omega
      obtain ⟨A', C', p1, p2, p3, p4, p5⟩ := HHD.out.at_ hkl
      have HPX4 : Hid (rowRd r s.data.toList = if 0 ≤ RL.cmpR r.X[k] x then (16, r) else (0, { r with X := r.X ++ [x] })) := by
        show _ = _
        rw [HPX3.out, List.getLast?_eq_getElem?, show r.X.length - 1 = k by omega, List.getElem?_eq_getElem hkl]
        simp only [decide_eq_true_eq]
      have hyl : r.X[k].length = ks.length := by
        have h6 := HX.out.ok r.X[k] (List.getElem_mem hkl)
        unfold wrongF at h6
        split at h6
        · cases h6
        · rename_i h7; omega
      have p1 : w.cell? ⟨gb, k, none⟩ = some (.slice A' r.X[k].length C') := by have := HOR.out.cells rfl _ _ p1; rwa [Addr.add_lit, Nat.zero_add] at this
      have q5 := cell_below HB2.out p1
      have p4 := (p4.below HB2.out (Nat.le_refl _)).more HB2.out.size
      have HCM := Lib.hid (rwCompare_any A' A C' C r.X[k] x w2 p4 HSX2.out (by omega) hxl)
      have hgw2 : gb < w2.heap.size := by have := HB2.out.size; omega
      have hd0 : decide ((0 : Int) < (r.X.length : Int)) = true := decide_eq_true (by omega)
      have hlen := HLEN.out
      have hw2 : IntKind.i64.wrap ((r.X.length : Int) - 1) = (k : Int) := by rw [IntWalk.i64_in _ (by omega)]; omega
      have g3 : (0 : Int) ≤ (k : Int) := by omega
      have g4 : (k : Int) < (r.X.length : Int) := by omega
      obtain ⟨c, hc⟩ : ∃ c, c = RL.cmpR r.X[k] x := ⟨_, rfl⟩
      rw [← hc] at HPX4 HCM
      obtain ⟨yl, hyl2⟩ : ∃ yl, yl = r.X[k].length := ⟨_, rfl⟩
      rw [← hyl2] at q5 HCM
      clear hlen hX0 hlp hk he2 he3 p1 p2 p3 p4 p5 hyl hc hyl2 HPX3
      go_wp2_with fail
      refine HCM.out.mono ?_
      rintro e w3 ⟨rfl, hx3⟩
      have HB3 := Lib.hid (Below.then HB2.out hx3.below HB2.out.size)
      have HRO4 := Lib.hid (HRO3.out.up hx3.below)
      have HSX3 := Lib.hid ((HSX2.out.below hx3.below (Nat.le_refl _)).more hx3.size)
      clear hx3 q3 hrl2 q5 hgw2 hw2 g3 g4
      by_cases hc : 0 ≤ c
      · have hdc : decide ((0 : Int) ≤ c) = true := decide_eq_true hc
        have HRES : Hid (rowRd r s.data.toList = (16, r)) := by show _ = _; rw [HPX4.out, if_pos hc]
        clear hc HPX4
        go_wp2_with fail
        refine (rdFail_any HRO4.out).mono ?_
        rintro e w4 ⟨rfl, rfl⟩
        go_wp2_with fail
        exact ⟨rfl, LinePost.bad (by rw [HRES.out]) (by decide) (HB3.out.mono (by omega)) (by rw [HRES.out])⟩
      · have hdc : decide ((0 : Int) ≤ c) = false := decide_eq_false hc
        have HRES : Hid (rowRd r s.data.toList = (0, { r with X := r.X ++ [x] })) := by show _ = _; rw [HPX4.out, if_neg hc]
        clear hc HPX4
        have HOV := Lib.hid (own_stay HOR.out (Stay.of (P := fun _ => True) HB3.out) fun _ _ => trivial)
        have HOVA := Lib.hid (fun (o : Obj) => HOV.out.alloc o)
        have q4 : w3.cell? ⟨rb, 3, none⟩ = some (.slice (some ⟨gb, 0, none⟩) r.X.length RC) := HRO4.out.cell 3
        have hrl5 := HRO4.out.lt
        have HROA := Lib.hid (fun (o : Obj) => HRO4.out.alloc o)
        go_wp2_with (at_builtin; refine appH1 rfl (.tmp 75) (.tmp 77) rfl (rb + 1) (.slice (some ⟨gb, 0, none⟩) r.X.length RC) r.X.length hs0 rfl (HOVA.out _) w3.heap.size (.slice A x.length C) rfl (by go_simp) rfl (by have := HLEN.out; omega) (by simp; omega) ?_; intro v5 w5 k1 k2 k3; obtain ⟨A9, C9, rfl, k4, k5, -⟩ := own_cut k1 (by decide); have HRO5 := Lib.hid ((HROA.out _).grown k2 (HNRB.out)); have f1 := HRO5.out.frozen 3; have f2 := HRO5.out.lt; have f3 := HRO5.out.cell 3; simp only [List.getElem?_cons_zero, List.getElem?_cons_succ] at f3; have HK1 := Lib.hid k1; have HK2 := Lib.hid k2; have HK3 := Lib.hid k3; clear k1 k2 k3 k4 k5 q4 hrl5)
        obtain ⟨W9, hW9⟩ : ∃ W9, W9 = w5.setCell ⟨rb, 3, none⟩ (.slice A9 (r.X.length + 1) C9) := ⟨_, rfl⟩
        rw [← hW9]
        have hrow9 : Row W9 rb 119 [.int .i64 r.line, .slice (some ⟨sb, 0, none⟩) n cap, .map (some mb), .slice A9 (r.X.length + 1) C9] := by rw [hW9]; exact HRO5.out.set 3 _
        refine bodyPost_end (results_none rfl _ _ _) rfl ⟨fun _ => ⟨rfl, ?_⟩, fun h => absurd (by rw [HRES.out]) h, ?_⟩
        · rw [HRES.out]
          exact RdM_row HS0.out (by omega) hsbw HNN.out HOS.out HSC.out HOR.out HHD.out HDB.out HB3.out HSX3.out HFR.out HXC.out HK1.out HK2.out HK3.out hW9 hrow9
        · rw [hW9]
          have hz9 := HB3.out.size
          have h5 : Below rb w w5 := ((HB3.out.mono (by omega)).alloc (by omega) _).grown HK2.out (by rw [World.size_alloc]; omega) (fun k hk => by have := (HOR.out.lt k hk).1; omega)
          exact h5.setCell (p := ⟨rb, 3, none⟩) (Nat.le_refl _) _
end
section
open Go.RowKit Go.Sort Go.ChangeMaps Go.WideShapes

theorem intInfoC : (Tryz.prog.info? 3).map (fun i => (i.zero, i.size, i.bytes)) = some (some (.int .i64 0), 1, 8) := by kernel_rfl
theorem schInfo : (Tryz.prog.info? 62).map (fun i => (i.zero, i.size, i.bytes)) = some (some (.agg #[.string ⟨#[]⟩, .slice none 0 0]), 2, 40) := by kernel_rfl
theorem runXSch {w : World} (ty : TypeId) (base : Nat) (v : Value) (n : Nat) (xs : List Value) (hown : w.ownsRow base 62 2 v n xs)
    (A : Option Addr) (m C : Nat) (news : List Value) (hl : news.length = m * 2) (hz : Sl w.heap.size w A news) (h1 : ∀ u ∈ news, u.oneCell' = true) (hn : n + m ≤ 1000000) (hbase : base ≤ w.heap.size) :
    ∃ v' w', (Builtin.append_ #[22, 22] ty #[v, .slice A m C]).run Tryz.prog w = .ok v' w' ∧ w'.ownsRow base 62 2 v' (n + m) (xs ++ news) ∧ w.grownBy w' v.ownBlock ∧ (∀ b, v'.ownBlock = some b → v.ownBlock = some b ∨ b = w.heap.size) := by
  obtain ⟨i0, hi0, hz0, hz1, hz2⟩ := info_parts schInfo
  rcases A with _ | ad
  · have hy : m = 0 := by
      rcases Nat.eq_zero_or_pos m with h | h
      · exact h
      · obtain ⟨b, o, e', hb, hc⟩ := hz (fun h0 => by rw [h0] at hl; simp only [List.length_nil] at hl; omega)
        cases e'
    subst hy
    obtain rfl : news = [] := List.eq_nil_of_length_eq_zero (by rw [hl, Nat.zero_mul])
    exact ⟨v, w, run_append_none (P := Tryz.prog) w base 22 ty 62 i0 2 Tryz.underlying22 hi0 v n xs hown C, by simpa using hown, ⟨rfl, rfl, rfl, Nat.le_refl _, fun _ _ _ => rfl⟩, fun b hb => .inl hb⟩
  · have hcell : ∀ j u, news[j]? = some u → w.cell? (ad.add j) = some u := fun j u hu => by
      obtain ⟨b, o, e', hb, hc⟩ := hz (by intro h0; rw [h0] at hu; simp at hu)
      injection e' with e'
      subst e'
      rw [Addr.add_lit]
      exact hc j u hu
    obtain ⟨v', w', hrun, k2, k3, _, k5⟩ := run_append_own_at (P := Tryz.prog) w base 22 ty 62 i0 _ 2 40 Tryz.underlying22 hi0 hz0 hz1 hz2 rfl (by decide) v n xs hown ad m C news hl hcell h1 (by simp only [maxLen]; omega) (by omega) hbase
    exact ⟨v', w', hrun, k2, k3, fun b hb => by
      rcases k5 with k5 | k5
      · exact .inl (by rw [← k5]; exact hb)
      · rw [k5] at hb; injection hb with hb; exact .inr hb.symm⟩
theorem stepXSch {w : World} {ops : Array Oper} {o : Oper} {a : Act} {K : Act → World → Prop} {Q : Exit → Act → World → Prop} {E : Prop} (hgd : o.guard = none) (s x : Operand)
    (ho : o.op = .call { callee := .builtin .append, args := #[s, x], argTypes := #[22, 22] })
    (base : Nat) (v : Value) (n : Nat) (xs : List Value) (hs0 : a.eval s = v) (hown : w.ownsRow base 62 2 v n xs)
    (A : Option Addr) (m C : Nat) (news : List Value) (hx : a.eval x = .slice A m C) (hl : news.length = m * 2) (hz : Sl w.heap.size w A news) (h1 : ∀ u ∈ news, u.oneCell' = true)
    (hn : n + m ≤ 1000000) (hbase : base ≤ w.heap.size)
    (h : ∀ v' w', w'.ownsRow base 62 2 v' (n + m) (xs ++ news) → w.grownBy w' v.ownBlock → (∀ b, v'.ownBlock = some b → v.ownBlock = some b ∨ b = w.heap.size) → K (a.put o.dst v') w') :
    if Region.wanted o (yielded ops a.tmps) = true then Oper.wp Tryz.prog o a w K Q else E := by
  obtain ⟨v', w', hrun, k2, k3, k4⟩ := runXSch o.type base v n xs hown A m C news hl hz h1 hn hbase
  have hw : Region.wanted o (yielded ops a.tmps) = true := by unfold Region.wanted; rw [hgd]
  rw [if_pos hw]
  unfold Oper.wp execOp
  simp only [ho, resolve, invoke, builtin, Sem.run_bind, Sem.run_pure, Result.andThen_ok, List.map_toArray, List.map_cons, List.map_nil, hs0, hx, hrun]
  exact h v' w' k2 k3 k4
theorem runXIntC {w : World} (ty : TypeId) (base : Nat) (v : Value) (n : Nat) (xs : List Value) (hown : w.ownsRow base 3 1 v n xs)
    (A : Option Addr) (m C : Nat) (news : List Value) (hl : news.length = m * 1) (hz : Sl w.heap.size w A news) (h1 : ∀ u ∈ news, u.oneCell' = true) (hn : n + m ≤ 1000000) (hbase : base ≤ w.heap.size) :
    ∃ v' w', (Builtin.append_ #[36, 36] ty #[v, .slice A m C]).run Tryz.prog w = .ok v' w' ∧ w'.ownsRow base 3 1 v' (n + m) (xs ++ news) ∧ w.grownBy w' v.ownBlock ∧ (∀ b, v'.ownBlock = some b → v.ownBlock = some b ∨ b = w.heap.size) := by
  obtain ⟨i0, hi0, hz0, hz1, hz2⟩ := info_parts intInfoC
  rcases A with _ | ad
  · have hy : m = 0 := by
      rcases Nat.eq_zero_or_pos m with h | h
      · exact h
      · obtain ⟨b, o, e', hb, hc⟩ := hz (fun h0 => by rw [h0] at hl; simp only [List.length_nil] at hl; omega)
        cases e'
    subst hy
    obtain rfl : news = [] := List.eq_nil_of_length_eq_zero (by rw [hl, Nat.zero_mul])
    exact ⟨v, w, run_append_none (P := Tryz.prog) w base 36 ty 3 i0 1 Tryz.underlying36 hi0 v n xs hown C, by simpa using hown, ⟨rfl, rfl, rfl, Nat.le_refl _, fun _ _ _ => rfl⟩, fun b hb => .inl hb⟩
  · have hcell : ∀ j u, news[j]? = some u → w.cell? (ad.add j) = some u := fun j u hu => by
      obtain ⟨b, o, e', hb, hc⟩ := hz (by intro h0; rw [h0] at hu; simp at hu)
      injection e' with e'
      subst e'
      rw [Addr.add_lit]
      exact hc j u hu
    obtain ⟨v', w', hrun, k2, k3, _, k5⟩ := run_append_own_at (P := Tryz.prog) w base 36 ty 3 i0 _ 1 8 Tryz.underlying36 hi0 hz0 hz1 hz2 rfl (by decide) v n xs hown ad m C news hl hcell h1 (by simp only [maxLen]; omega) (by omega) hbase
    exact ⟨v', w', hrun, k2, k3, fun b hb => by
      rcases k5 with k5 | k5
      · exact .inl (by rw [← k5]; exact hb)
      · rw [k5] at hb; injection hb with hb; exact .inr hb.symm⟩
theorem appXIntC {w : World} {ops : Array Oper} {rest : List Oper} {o : Oper} {a : Act} {Q : Exit → Act → World → Prop} (hgd : o.guard = none) (s x : Operand)
    (ho : o.op = .call { callee := .builtin .append, args := #[s, x], argTypes := #[36, 36] })
    (base : Nat) (v : Value) (n : Nat) (xs : List Value) (hs0 : a.eval s = v) (hown : w.ownsRow base 3 1 v n xs)
    (A : Option Addr) (m C : Nat) (news : List Value) (hx : a.eval x = .slice A m C) (hl : news.length = m * 1) (hz : Sl w.heap.size w A news) (h1 : ∀ u ∈ news, u.oneCell' = true)
    (hn : n + m ≤ 1000000) (hbase : base ≤ w.heap.size)
    (h : ∀ v' w', w'.ownsRow base 3 1 v' (n + m) (xs ++ news) → w.grownBy w' v.ownBlock → (∀ b, v'.ownBlock = some b → v.ownBlock = some b ∨ b = w.heap.size) → wpList Tryz.prog ops Q rest (a.put o.dst v') w') : wpList Tryz.prog ops Q (o :: rest) a w := by
  refine wpList_plain hgd fun K hK => ?_
  obtain ⟨v', w', hrun, k2, k3, k4⟩ := runXIntC o.type base v n xs hown A m C news hl hz h1 hn hbase
  unfold Oper.wp execOp
  simp only [ho, resolve, invoke, builtin, Sem.run_bind, Sem.run_pure, Result.andThen_ok, List.map_toArray, List.map_cons, List.map_nil, hs0, hx, hrun]
  exact hK _ _ (h v' w' k2 k3 k4)
theorem sSplit_any (l : List UInt8) (hs : l.length ≤ 1000000) (w : World) (hT : Tabs w) : Calls Tryz.prog 90 #[.string (toB l), .string ⟨#[32]⟩] w fun e w' => e = .returned (.slice (some ⟨w.heap.size, 0, none⟩) (wordsP l).length (wordsP l).length) ∧ w' = w.alloc (.cells ((wordsP l).map Value.string).toArray 9) := by
  obtain ⟨m, hm⟩ := hT.maxs
  have hlen : (wordsP l).length = Lib.countB (toB l) ⟨#[32]⟩ + 1 := Lib.splitB_all ⟨#[32]⟩ (by decide) 0 _ (toB l) rfl
  rw [hlen]
  exact Any.strings_Split YtdadchpiibipoaaGreatDoor.lSplit (by kernel_rfl) (toB l) ⟨#[32]⟩ m w (by rw [toB_size]; omega) hm (by decide)
theorem sCut_any (s : ByteArray) (hs : s.size ≤ 1000000) (w : World) (hT : Tabs w) : Calls Tryz.prog 59 #[.string s, .string ⟨#[10]⟩] w fun e w' => e = .returned (.tuple #[.string (toB (Lib.cut s.data.toList [10]).1), .string (toB (Lib.cut s.data.toList [10]).2.1), .bool (Lib.cut s.data.toList [10]).2.2]) ∧ ∃ n, w' = w.drewN n := by
  obtain ⟨m, hm⟩ := hT.maxl
  exact Any.strings_Cut YtdadchpiibipoaaGreatDoor.lCut s ⟨#[10]⟩ m w (by omega) hm

set_option maxHeartbeats 2000000 in
theorem ctCopy_nil (w : World) (bd : Nat) : Calls Tryz.prog 91 #[.map (some bd), .map none] w fun e w' => e = .returned (.tuple #[]) ∧ Below w.heap.size w w' := by
  have hrg := run_range_nilMap (P := Tryz.prog) w 26 9 99 Tryz.underlying26
  have hnx : ∀ ty, (Instr.next (.pointer (some ⟨w.heap.size, 0, none⟩)) false ty).run Tryz.prog (w.alloc (.mapIter none 0 #[] 0)) = _ := fun ty => run_next_nilMap w ty 0 0 #[]
  have HB : Hid (Below w.heap.size w (w.alloc (.mapIter none 0 #[] 0))) := (Below.refl _ w).alloc (Nat.le_refl _) _
  go_enter Tryz.func91, Tryz.ntmps91
  go_wp2_with fail
  refine wp_loop_rounds 1 ?_
  rw [rounds_succ]
  go_wp2_with fail
  go_end0
  exact ⟨rfl, HB.out⟩
end
end Go.Proofs.YtdadchpiibipoaaGreatDoor

/- Walk: trie.Children. -/
import Derived.Test.YtlcammcifjihpaaHU6
namespace Go.Proofs.Ytlcammcifjihpaa
open Go.RowKit Go.Sort

theorem makeVals0 (n : Nat) (hn : n ≤ 1000000) (w : World) : (Instr.makeSlice 46 (.int .i64 (n : Int)) (.int .i64 (n : Int))).run Try.prog w = .ok (.slice (some ⟨w.heap.size, 0, none⟩) n n) (w.alloc (.cells (zerosV n) 38)) := by
  obtain ⟨i0, hi0, hz0, hz1, hz2⟩ := info_parts valInfo
  have h1 := run_make (P := Try.prog) w 47 38 i0 _ Try.underlying47 hi0 hz0 .i64 .i64 n n (by omega) (by omega) (by rw [hz2]; omega) (by omega)
  have h2 := run_make (P := Try.prog) w 46 38 i0 _ Try.underlying46 hi0 hz0 .i64 .i64 n n (by omega) (by omega) (by rw [hz2]; omega) (by omega)
  rw [h2, ← h1]
  exact makeVals n hn w
/-- What Children leaves: the values below the prefix. -/
def KidsPost (w : World) (d : Nat) (P : List RL.R) (p : RL.R) (e : Ending) (w' : World) : Prop :=
  ∃ A C, e = .returned (.slice A (RL.kids d P p).length C) ∧ (RL.kids d P p).length ≤ C ∧ C ≤ 9223372036854775807 ∧ SlR w'.heap.size w' A (RL.kids d P p) ∧ Below w.heap.size w w'
theorem KidsPost.none {w w' : World} {d : Nat} {P : List RL.R} {p : RL.R} {e : Ending} (h : RL.kids d P p = []) (he : e = .returned (.slice none 0 0)) (hb : Below w.heap.size w w') : KidsPost w d P p e w' :=
  ⟨Option.none, 0, by rw [h]; exact he, by rw [h]; exact Nat.le_refl _, by omega, by rw [h]; exact SlR.nil, hb⟩

set_option maxHeartbeats 8000000 in
set_option maxRecDepth 100000 in
theorem trChildren_any (LA PA : Option Addr) (d C PC : Nat) (P : List RL.R) (p : RL.R) (w : World) (h : TrM w.heap.size w LA d (vsF d P) (fsF d P)) (hp : SlR w.heap.size w PA p) (hd : d ≤ 32) (hP : P.length ≤ 100000) (hr : ∀ r ∈ P, r.length = d) (_hpl : p.length ≤ 1000000) :
    Calls Try.prog 27 #[.agg #[.slice LA d C], .slice PA p.length PC] w (KidsPost w d P p) := by
  have HT := Lib.hid h
  have HP := Lib.hid hp
  have HRR := Lib.hid hr
  have HIT := Lib.hid (fun W => itIter LA d C P W)
  have hmf : ∀ (fn : Fn) (first cap : Array Value) (w : World), (Instr.makeFunc fn first cap).run Try.prog w = .ok (.func fn first cap) w := fun _ _ _ _ => rfl
  have HB0 := Lib.hid ((Ext.refl w).alloc (.cells #[.slice LA d C] 31))
  have HR0 := Lib.hid (Row.new w 31 [.slice LA d C])
  clear h hp hr
  go_enter Try.func27, Try.ntmps27
  go_wp2_with fail
  refine (HIT.out _).mono ?_
  rintro e w1 ⟨g, rfl, hg, hit, hb⟩
  have HIT1 := Lib.hid hit
  have HR1 := Lib.hid (HR0.out.up hb)
  have HB1 := Lib.hid (Below.then HB0.out.below hb HB0.out.size)
  have hz0 := HB0.out.size
  have hgw : w.heap.size < g := by have := HR0.out.lt; omega
  clear hit hb HIT HR0 HB0 hg
  go_wp2
  go_loopw [24] (fun m wr => ∃ (k : Nat) (x : Pl) (s : Nat), k ≤ p.length ∧ m = .int .i64 k ∧ Good d P p k x ∧ IterP wr g LA d C P x s ∧ s ≤ k * 200002 ∧ Row wr w.heap.size 31 [.slice LA d C] ∧ Below w.heap.size w wr) (fun m _ => p.length - (intOf m).toNat)
  case atStart => exact ⟨0, none, 0, Nat.zero_le _, rfl, .inl ⟨rfl, rfl⟩, HIT1.out, Nat.zero_le _, HR1.out, HB1.out⟩
  case round =>
    obtain ⟨k, x, s, hka, rfl, hgood, hit, hs, hrow, hbw⟩ := hrel
    have HGOOD := Lib.hid hgood
    have HI := Lib.hid hit
    have HROW := Lib.hid hrow
    have HBW := Lib.hid hbw
    have hsz := hbw.size
    clear hgood hit hrow hbw HIT1 HR1 HB1
    by_cases h1 : k < p.length
    rotate_left
    · have hkp : k = p.length := by omega
      have hge : ¬ k < p.length := h1
      have HO := Lib.hid (itOpen w.heap.size g LA d C P x s wr (HT.out.below HBW.out (Nat.le_refl _)) hsz HI.out hd hP HRR.out)
      cases hob : openB d P x
      · have HK0 := Lib.hid (good_closed' HRR.out HGOOD.out hka hob)
        rw [hob] at HO
        clear hob hkp
        go_wp2_with fail
        refine HO.out.mono ?_
        rintro e w3 ⟨rfl, hit3, hg3⟩
        have HB3 := Lib.hid (Below.then HBW.out (below_of_grown hg3 (by omega : w.heap.size ≤ g) hsz) (Nat.le_refl _))
        clear hit3 hg3
        go_wp2
        go_ret
        exact KidsPost.none HK0.out rfl HB3.out
      obtain ⟨hox, hpos, hkd⟩ := good_open HRR.out HGOOD.out hka hob
      rw [hob, hox] at HO
      rw [hkp, List.take_length] at hpos
      rw [hkp, List.take_length] at HO
      rw [hkp] at hkd
      clear hob hox hkp HGOOD
      go_wp2_with fail
      refine HO.out.mono ?_
      rintro e w3 ⟨rfl, hit3, hg3⟩
      have HB3 := Lib.hid (Below.then HBW.out (below_of_grown hg3 (by omega : w.heap.size ≤ g) hsz) (Nat.le_refl _))
      have hrow3 := HROW.out.grown hg3 (fun e => by injection e; omega)
      obtain ⟨t, hm, -, hat⟩ := hit3
      have c2 := hm.c2
      have c3 := hm.c3
      have hatp : t.pos = RL.lo d P p + 0 := hat.pos
      have hatf : t.fin = RL.lo d P p + (RL.kids d P p).length := hat.fin
      rw [hatp, Nat.add_zero] at c2
      rw [hatf] at c3
      have hgz3 := hm.lt
      obtain ⟨b, o, VA, VC, FA, FC, hLA, hb, h3, -, h5, h6, h7, -⟩ := (HT.out.below HB3.out (Nat.le_refl _)) p.length (by omega)
      obtain ⟨b2, o2, hVA, hb2, hcells⟩ := kids_cells h7 hpos
      subst hLA hVA
      have hfit := RL.kids_fit (d := d) (P := P) p
      rw [← vsF_len] at hfit
      have hvl := vsF_le d P p.length
      have HCE := Lib.hid hcells
      have t0 : w3.cell? ⟨w.heap.size, 0, none⟩ = some (.slice (some ⟨b, o, none⟩) d C) := hrow3.cell 0
      have HKP : Hid (∀ L, L = RL.kids d P p → ∀ e w' A C, e = .returned (.slice A L.length C) → L.length ≤ C → C ≤ 9223372036854775807 → SlR w'.heap.size w' A L → Below w.heap.size w w' → KidsPost w d P p e w') := fun L hL e w' A C h1 h2 h3 h4 h5 => by subst hL; exact ⟨A, C, h1, h2, h3, h4, h5⟩
      have HR3 := Lib.hid hrow3
      have hz3 := HB3.out.size
      have hwg3 := hg3.size
      clear HO HT HP HRR hg3 hm hat hatp hatf h7 hcells HI HROW HBW hrow3
      obtain ⟨L, hL⟩ : ∃ L, L = RL.kids d P p := ⟨_, rfl⟩
      have HKP2 := Lib.hid (HKP.out L hL)
      rw [← hL] at hpos hfit HCE c3
      clear hL HKP
      generalize RL.lo d P p = q at *
      generalize (vsF d P p.length).length = n at *
      have g1 : (p.length : Int) < (d : Int) := by omega
      obtain ⟨f, hf⟩ : ∃ f, f = q + L.length := ⟨_, rfl⟩
      rw [← hf] at c3 hfit
      have q1 : q ≤ f := by omega
      have q2 : f ≤ VC := by omega
      have q3 : (q : Int) ≤ (f : Int) := by omega
      have HF : Hid (f - q = L.length) := by show _ = _; omega
      have g2 : IntKind.i64.wrap ((f : Int) - (q : Int)) = (L.length : Int) := by rw [IntWalk.i64_in _ (by omega)]; omega
      have g3 : (f : Int) - (q : Int) = (L.length : Int) := by omega
      have g4 : L.length ≤ 1000000 := by omega
      clear hf
      have hmk := makeVals0 L.length g4
      go_wp2
      go_still_tail 11, (by kernel_rfl)
      go_wp2
      rw [hmk]
      go_wp2
      have hx5 : Ext w3 ((w3.alloc (.cells (zerosV L.length) 38)).drew) := ((Ext.refl w3).alloc _).drew
      have hn5 : Row ((w3.alloc (.cells (zerosV L.length) 38)).drew) w3.heap.size 38 (rcells (List.replicate L.length zV)) := Row.new w3 38 (rcells (List.replicate L.length zV))
      generalize (w3.alloc (.cells (zerosV L.length) 38)).drew = W5 at *
      have e0 : W5.cell? ⟨w.heap.size, 0, none⟩ = some (.slice (some ⟨b, o, none⟩) d C) := (hx5.cell (by omega)).trans t0
      have e2 : W5.cell? ⟨g, 2, none⟩ = some (.int .i64 q) := (hx5.cell hgz3).trans c2
      have e3 : W5.cell? ⟨g, 3, none⟩ = some (.int .i64 f) := (hx5.cell hgz3).trans c3
      have e4 : W5.cell? ⟨b, o + p.length * 2, none⟩ = some (.slice (some ⟨b2, o2, none⟩) n VC) := (hx5.cell (by omega)).trans h3
      have HX5 := Lib.hid hx5
      have HN5 := Lib.hid hn5
      clear t0 c2 c3 h3 hx5 hn5 hmk
      refine wp_region_held_drew (S := (fun w' => w'.cell? ⟨w.heap.size, 0, none⟩ = some (.slice (some ⟨b, o, none⟩) d C) ∧ w'.cell? ⟨g, 2, none⟩ = some (.int .i64 q) ∧ w'.cell? ⟨g, 3, none⟩ = some (.int .i64 f) ∧ w'.cell? ⟨b, o + p.length * 2, none⟩ = some (.slice (some ⟨b2, o2, none⟩) n VC))) (by kernel_rfl) ⟨e0, e2, e3, e4⟩ (fun hHeld => ?_)
      refine takeOp (i := 0) (v := ?_) (some 62) rfl rfl (by kernel_rfl) (by kernel_rfl) (by kernel_rfl) (fun _ _ _ h => h) (Or.inl ⟨by rfl, ?_⟩) (by assumption) ?_
      rotate_left 1
      · (intro w0 hSw; (try dsimp only at hSw); go_simp; try (with_reducible rfl))
      try simp only [Act.put]
      try simp only [List.setIfInBounds_toArray]
      try simp only [List.set_cons_succ]
      try simp only [List.set_cons_zero]
      refine takeOp (i := 1) (v := ?_) (some 63) rfl rfl (by kernel_rfl) (by kernel_rfl) (by kernel_rfl) (fun _ _ _ h => h) (Or.inl ⟨by rfl, ?_⟩) (by assumption) ?_
      rotate_left 1
      · (intro w0 hSw; (try dsimp only at hSw); go_simp; try (with_reducible rfl))
      try simp only [Act.put]
      try simp only [List.setIfInBounds_toArray]
      try simp only [List.set_cons_succ]
      try simp only [List.set_cons_zero]
      refine takeOp (i := 2) (v := ?_) (some 64) rfl rfl (by kernel_rfl) (by kernel_rfl) (by kernel_rfl) (fun _ _ _ h => h) (Or.inl ⟨by rfl, ?_⟩) (by assumption) ?_
      rotate_left 1
      · (intro w0 hSw; (try dsimp only at hSw); go_simp; try (with_reducible rfl))
      try simp only [Act.put]
      try simp only [List.setIfInBounds_toArray]
      try simp only [List.set_cons_succ]
      try simp only [List.set_cons_zero]
      refine takeOp (i := 3) (v := ?_) (some 65) rfl rfl (by kernel_rfl) (by kernel_rfl) (by kernel_rfl) (fun _ _ _ h => h) (Or.inl ⟨by rfl, ?_⟩) (by assumption) ?_
      rotate_left 1
      · (intro w0 hSw; (try dsimp only at hSw); go_simp; try (with_reducible rfl))
      try simp only [Act.put]
      try simp only [List.setIfInBounds_toArray]
      try simp only [List.set_cons_succ]
      try simp only [List.set_cons_zero]
      refine takeOp (i := 4) (v := ?_) (some 66) rfl rfl (by kernel_rfl) (by kernel_rfl) (by kernel_rfl) (fun _ _ _ h => h) (Or.inl ⟨by rfl, ?_⟩) (by assumption) ?_
      rotate_left 1
      · (intro w0 hSw; (try dsimp only at hSw); go_simp; try (with_reducible rfl))
      try simp only [Act.put]
      try simp only [List.setIfInBounds_toArray]
      try simp only [List.set_cons_succ]
      try simp only [List.set_cons_zero]
      refine takeOp (i := 5) (v := ?_) (some 67) rfl rfl (by kernel_rfl) (by kernel_rfl) (by kernel_rfl) (fun _ _ _ h => h) (Or.inl ⟨by rfl, ?_⟩) (by assumption) ?_
      rotate_left 1
      · (intro w0 hSw; (try dsimp only at hSw); go_simp; try (with_reducible rfl))
      try simp only [Act.put]
      try simp only [List.setIfInBounds_toArray]
      try simp only [List.set_cons_succ]
      try simp only [List.set_cons_zero]
      refine takeOp (i := 6) (v := ?_) (some 68) rfl rfl (by kernel_rfl) (by kernel_rfl) (by kernel_rfl) (fun _ _ _ h => h) (Or.inl ⟨by rfl, ?_⟩) (by assumption) ?_
      rotate_left 1
      · (intro w0 hSw; (try dsimp only at hSw); go_simp; try (with_reducible rfl))
      try simp only [Act.put]
      try simp only [List.setIfInBounds_toArray]
      try simp only [List.set_cons_succ]
      try simp only [List.set_cons_zero]
      refine takeOp (i := 7) (v := ?_) (some 69) rfl rfl (by kernel_rfl) (by kernel_rfl) (by kernel_rfl) (fun _ _ _ h => h) (Or.inl ⟨by rfl, ?_⟩) (by assumption) ?_
      rotate_left 1
      · (intro w0 hSw; (try dsimp only at hSw); go_simp; try (with_reducible rfl))
      try simp only [Act.put]
      try simp only [List.setIfInBounds_toArray]
      try simp only [List.set_cons_succ]
      try simp only [List.set_cons_zero]
      refine takeOp (i := 8) (v := ?_) (some 70) rfl rfl (by kernel_rfl) (by kernel_rfl) (by kernel_rfl) (fun _ _ _ h => h) (Or.inl ⟨by rfl, ?_⟩) (by assumption) ?_
      rotate_left 1
      · (intro w0 hSw; (try dsimp only at hSw); go_simp; try (with_reducible rfl))
      try simp only [Act.put]
      try simp only [List.setIfInBounds_toArray]
      try simp only [List.set_cons_succ]
      try simp only [List.set_cons_zero]
      refine takeOp (i := 9) (v := ?_) (some 71) rfl rfl (by kernel_rfl) (by kernel_rfl) (by kernel_rfl) (fun _ _ _ h => h) (Or.inl ⟨by rfl, ?_⟩) (by assumption) ?_
      rotate_left 1
      · (intro w0 hSw; (try dsimp only at hSw); go_simp; try (with_reducible rfl))
      try simp only [Act.put]
      try simp only [List.setIfInBounds_toArray]
      try simp only [List.set_cons_succ]
      try simp only [List.set_cons_zero]
      refine takeOp (i := 10) (v := ?_) (some 72) rfl rfl (by kernel_rfl) (by kernel_rfl) (by kernel_rfl) (fun _ _ _ h => h) (Or.inl ⟨by rfl, ?_⟩) (by assumption) ?_
      rotate_left 1
      · (intro w0 hSw; (try dsimp only at hSw); go_simp; try (with_reducible rfl))
      try simp only [Act.put]
      try simp only [List.setIfInBounds_toArray]
      try simp only [List.set_cons_succ]
      try simp only [List.set_cons_zero]
      refine takeOp (i := 11) (v := ?_) (some 73) rfl rfl (by kernel_rfl) (by kernel_rfl) (by kernel_rfl) (fun _ _ _ h => h) (Or.inl ⟨by rfl, ?_⟩) (by assumption) ?_
      rotate_left 1
      · (intro w0 hSw; (try dsimp only at hSw); go_simp; try (with_reducible rfl))
      try simp only [Act.put]
      try simp only [List.setIfInBounds_toArray]
      try simp only [List.set_cons_succ]
      try simp only [List.set_cons_zero]
      refine takeOp (i := 12) (v := ?_) (some 74) rfl rfl (by kernel_rfl) (by kernel_rfl) (by kernel_rfl) (fun _ _ _ h => h) (Or.inl ⟨by rfl, ?_⟩) (by assumption) ?_
      rotate_left 1
      · (intro w0 hSw; (try dsimp only at hSw); go_simp; try (with_reducible rfl))
      try simp only [Act.put]
      try simp only [List.setIfInBounds_toArray]
      try simp only [List.set_cons_succ]
      try simp only [List.set_cons_zero]
      refine takeOp (i := 13) (v := ?_) (some 75) rfl rfl (by kernel_rfl) (by kernel_rfl) (by kernel_rfl) (fun _ _ _ h => h) (Or.inl ⟨by rfl, ?_⟩) (by assumption) ?_
      rotate_left 1
      · (intro w0 hSw; (try dsimp only at hSw); go_simp; try (with_reducible rfl))
      try simp only [Act.put]
      try simp only [List.setIfInBounds_toArray]
      try simp only [List.set_cons_succ]
      try simp only [List.set_cons_zero]
      refine takeOp (i := 14) (v := ?_) (some 76) rfl rfl (by kernel_rfl) (by kernel_rfl) (by kernel_rfl) (fun _ _ _ h => h) (Or.inl ⟨by rfl, ?_⟩) (by assumption) ?_
      rotate_left 1
      · (intro w0 hSw; (try dsimp only at hSw); go_simp; try (with_reducible rfl))
      try simp only [Act.put]
      try simp only [List.setIfInBounds_toArray]
      try simp only [List.set_cons_succ]
      try simp only [List.set_cons_zero]
      refine takeOp (i := 15) (v := ?_) (some 77) rfl rfl (by kernel_rfl) (by kernel_rfl) (by kernel_rfl) (fun _ _ _ h => h) (Or.inl ⟨by rfl, ?_⟩) (by assumption) ?_
      rotate_left 1
      · (intro w0 hSw; (try dsimp only at hSw); go_simp; try (with_reducible rfl))
      try simp only [Act.put]
      try simp only [List.setIfInBounds_toArray]
      try simp only [List.set_cons_succ]
      try simp only [List.set_cons_zero]
      refine takeOp (i := 16) (v := ?_) (some 78) rfl rfl (by kernel_rfl) (by kernel_rfl) (by kernel_rfl) (fun _ _ _ h => h) (Or.inl ⟨by rfl, ?_⟩) (by assumption) ?_
      rotate_left 1
      · (intro w0 hSw; (try dsimp only at hSw); go_simp; try (with_reducible rfl))
      try simp only [Act.put]
      try simp only [List.setIfInBounds_toArray]
      try simp only [List.set_cons_succ]
      try simp only [List.set_cons_zero]
      refine takeOp (i := 17) (v := ?_) (some 79) rfl rfl (by kernel_rfl) (by kernel_rfl) (by kernel_rfl) (fun _ _ _ h => h) (Or.inl ⟨by rfl, ?_⟩) (by assumption) ?_
      rotate_left 1
      · (intro w0 hSw; (try dsimp only at hSw); go_simp; try (with_reducible rfl))
      try simp only [Act.put]
      try simp only [List.setIfInBounds_toArray]
      try simp only [List.set_cons_succ]
      try simp only [List.set_cons_zero]
      refine takeOp (i := 18) (v := ?_) (some 80) rfl rfl (by kernel_rfl) (by kernel_rfl) (by kernel_rfl) (fun _ _ _ h => h) (Or.inl ⟨by rfl, ?_⟩) (by assumption) ?_
      rotate_left 1
      · (intro w0 hSw; (try dsimp only at hSw); go_simp; try (with_reducible rfl))
      try simp only [Act.put]
      try simp only [List.setIfInBounds_toArray]
      try simp only [List.set_cons_succ]
      try simp only [List.set_cons_zero]
      refine wpAnyH_ready (rs := [19]) (by kernel_rfl) (by simp) ?_
      refine AllReadyH.cons rfl (fun K hK => ?_) AllReadyH.nil
      refine stepCopyV (w := W5.drew) rfl (.tmp 62) (.tmp 80) rfl w3.heap.size L (rcells (List.replicate L.length zV)) HN5.out (by rw [rcells_length]; simp) (by simp [Act.eval]) b2 (o2 + q * 3) (VC - q) (by simp [Act.eval, HF.out]; intro h; omega) (fun i u hu => (HX5.out.cell (by omega)).trans (HCE.out i u hu)) ?_
      intro w6 hr6 hg6
      have hne5 := HN5.out.lt
      have KEEP : w6.cell? ⟨w.heap.size, 0, none⟩ = some (.slice (some ⟨b, o, none⟩) d C) ∧ w6.cell? ⟨g, 2, none⟩ = some (.int .i64 q) ∧ w6.cell? ⟨g, 3, none⟩ = some (.int .i64 f) ∧ w6.cell? ⟨b, o + p.length * 2, none⟩ = some (.slice (some ⟨b2, o2, none⟩) n VC) := by
        have hzz5 := HX5.out.size
        refine ⟨(grown_cell hg6 (p := ⟨w.heap.size, 0, none⟩) (by show w.heap.size < W5.heap.size; omega) (fun e => by injection e with e; simp only at e; omega)).trans e0, (grown_cell hg6 (p := ⟨g, 2, none⟩) (by show g < W5.heap.size; omega) (fun e => by injection e with e; simp only at e; omega)).trans e2, (grown_cell hg6 (p := ⟨g, 3, none⟩) (by show g < W5.heap.size; omega) (fun e => by injection e with e; simp only at e; omega)).trans e3, (grown_cell hg6 (p := ⟨b, o + p.length * 2, none⟩) (by show b < W5.heap.size; omega) (fun e => by injection e with e; simp only at e; omega)).trans e4⟩
      have HR6 := Lib.hid hr6
      have HB6 := Lib.hid (Below.then (Below.then HB3.out HX5.out.below hz3) (Below.undrew (below_of_grown (w := W5.drew) hg6 (Nat.le_refl w3.heap.size) HX5.out.size)) (by omega))
      clear hr6 hg6
      refine hK.out _ _ KEEP (fun hHeld => ?_)
      clear hK K
      try simp only [Act.put]
      try simp only [List.setIfInBounds_toArray]
      try simp only [List.set_cons_succ]
      try simp only [List.set_cons_zero]
      refine wpAnyH_done (by kernel_rfl) ?_ _
      go_wp2
      go_ret
      refine HKP2.out _ _ _ _ rfl (Nat.le_refl _) (by omega) ?_ HB6.out
      exact HR6.out.sl
    obtain ⟨b, o, hA, hb, c1, c2, c3⟩ := slR_at HP.out h1
    subst hA
    have HV : Hid (p[k]? = some p[k]) := List.getElem?_eq_getElem h1
    generalize p[k] = v at *
    have c1 := (HBW.out.cell (p := ⟨b, o + k * 3, none⟩) hb).trans c1
    have c2 := (HBW.out.cell (p := ⟨b, o + k * 3 + 1, none⟩) hb).trans c2
    have c3 := (HBW.out.cell (p := ⟨b, o + k * 3 + 2, none⟩) hb).trans c3
    obtain ⟨W2, hW2⟩ : ∃ W2, W2 = wr.alloc (.cells #[.int .i64 v.kind, .int .i64 v.int, .string v.str] 38) := ⟨_, rfl⟩
    have hx2 : Ext wr W2 := by rw [hW2]; exact (Ext.refl wr).alloc _
    have hv2 : Row W2 wr.heap.size 38 (vcells v) := by rw [hW2]; exact Row.new wr 38 (vcells v)
    have HX2 := Lib.hid hx2
    have HV2 := Lib.hid hv2
    have HI2 := Lib.hid (HI.out.ext hx2)
    have hgz := HI.out.lt
    have HB2 := Lib.hid (Below.then HBW.out hx2.below hsz)
    have HO := Lib.hid (itOpen w.heap.size g LA d C P x s W2 (HT.out.below HB2.out (Nat.le_refl _)) HB2.out.size HI2.out hd hP HRR.out)
    clear hx2 hv2
    cases hob : openB d P x
    · have HK0 := Lib.hid (good_closed' HRR.out HGOOD.out hka hob)
      rw [hob] at HO
      clear hob
      go_wp2_with fail
      rw [← hW2]
      clear hW2
      refine HO.out.mono ?_
      rintro e w3 ⟨rfl, hit3, hg3⟩
      have HB3 := Lib.hid (Below.then HB2.out (below_of_grown hg3 (by omega : w.heap.size ≤ g) HB2.out.size) (Nat.le_refl _))
      clear hit3 hg3
      go_wp2
      go_ret
      exact KidsPost.none HK0.out rfl HB3.out
    · obtain ⟨hox, hpos, hkd⟩ := good_open HRR.out HGOOD.out hka hob
      obtain ⟨hn1, hn2, hn3⟩ := good_next HRR.out h1 HV.out hpos
      rw [hob, hox] at HO
      clear hob hox
      have HN1 := Lib.hid hn1
      have HN2 := Lib.hid hn2
      have HN3 := Lib.hid hn3
      clear hn1 hn2 hn3
      obtain ⟨x3, hx3⟩ : ∃ x3, x3 = seekX d P v (some (p.take k, 0)) := ⟨_, rfl⟩
      rw [← hx3] at HN1 HN2 HN3
      have HSK : Hid (∀ W, TrM w.heap.size W LA d (vsF d P) (fsF d P) → w.heap.size ≤ W.heap.size → IterP W g LA d C P (some (p.take k, 0)) s → Calls Try.prog 14 #[.pointer (some ⟨g, 0, none⟩), vv v] W fun e w' => ∃ s', e = .returned (.bool (onX d P x3)) ∧ IterP w' g LA d C P x3 s' ∧ s' ≤ s + 200002 ∧ W.grownBy w' (some g)) := fun W hT hz hI => by
        rw [hx3]
        exact itSeek w.heap.size g LA d C P _ s v W hT hz (by omega) hI hd hP HRR.out (by omega)
      clear hx3
      go_wp2_with fail
      rw [← hW2]
      clear hW2
      refine HO.out.mono ?_
      rintro e w3 ⟨rfl, hit3, hg3⟩
      have HB3 := Lib.hid (Below.then HB2.out (below_of_grown hg3 (by omega : w.heap.size ≤ g) HB2.out.size) (Nat.le_refl _))
      have hrow3 := HV2.out.grown hg3 (fun e => by injection e; omega)
      have n1 : w3.cell? ⟨wr.heap.size, 0, none⟩ = some (.int .i64 v.kind) := hrow3.cell 0
      have n2 : w3.cell? ⟨wr.heap.size, 1, none⟩ = some (.int .i64 v.int) := hrow3.cell 1
      have n3 : w3.cell? ⟨wr.heap.size, 2, none⟩ = some (.string v.str) := hrow3.cell 2
      have HV3 := Lib.hid hrow3
      have HI3 := Lib.hid hit3
      have HG3 := Lib.hid hg3
      clear hrow3 hit3 hg3
      go_wp2_with fail
      refine (HSK.out w3 (HT.out.below HB3.out (Nat.le_refl _)) HB3.out.size HI3.out).mono ?_
      rintro e w4 ⟨s4, rfl, hit4, hs4, hg4⟩
      have HB4 := Lib.hid (Below.then HB3.out (below_of_grown hg4 (by omega : w.heap.size ≤ g) HB3.out.size) (Nat.le_refl _))
      have hz3 := HG3.out.size
      have hz2 := HV2.out.lt
      have hrow4 := HV3.out.grown hg4 (fun e => by injection e; omega)
      have n1' : w4.cell? ⟨wr.heap.size, 0, none⟩ = some (.int .i64 v.kind) := hrow4.cell 0
      have n2' : w4.cell? ⟨wr.heap.size, 1, none⟩ = some (.int .i64 v.int) := hrow4.cell 1
      have n3' : w4.cell? ⟨wr.heap.size, 2, none⟩ = some (.string v.str) := hrow4.cell 2
      have HV4 := Lib.hid hrow4
      have HI4 := Lib.hid hit4
      have HR4 := Lib.hid (((HROW.out.up HX2.out.below).grown HG3.out (fun e => by injection e; omega)).grown hg4 (fun e => by injection e; omega))
      have HKY := Lib.hid (itKey w.heap.size g LA d C P x3 s4 w4 (HT.out.below HB4.out (Nat.le_refl _)) HB4.out.size hit4 hd hP HRR.out)
      clear hrow4 hit4 hg4 n1 n2 n3 HV3 HI3 HG3 HSK HO
      cases hon : onX d P x3
      · have HK0 := Lib.hid (HN1.out hon)
        clear HN1 HN2 HN3
        go_wp2
        go_ret
        exact KidsPost.none HK0.out rfl HB4.out
      · rw [hon] at HKY
        have HN2' := Lib.hid (fun h => HN2.out h hon)
        have HN3' := Lib.hid (fun h => HN3.out h hon)
        clear HN1 HN2 HN3 hon
        generalize keyV d P x3 = key at *
        go_wp2_with fail
        refine HKY.out.mono ?_
        rintro e w5 ⟨rfl, hb5⟩
        have HB5 := Lib.hid (Below.then HB4.out hb5 HB4.out.size)
        have hrow5 := HV4.out.up hb5
        have n1 : w5.cell? ⟨wr.heap.size, 0, none⟩ = some (.int .i64 v.kind) := hrow5.cell 0
        have n2 : w5.cell? ⟨wr.heap.size, 1, none⟩ = some (.int .i64 v.int) := hrow5.cell 1
        have n3 : w5.cell? ⟨wr.heap.size, 2, none⟩ = some (.string v.str) := hrow5.cell 2
        have hlt5 := hrow5.lt
        have HI5 := Lib.hid (HI4.out.up hb5)
        have HR5 := Lib.hid (HR4.out.up hb5)
        have HCMP := Lib.hid (fun W => vCompare_any key v W)
        have HZ : Hid (RL.cmpV key v = 0 ↔ key = v) := RL.tot_cmpV.z _ _
        obtain ⟨q, hq⟩ : ∃ q, q = RL.cmpV key v := ⟨_, rfl⟩
        rw [← hq] at HCMP HZ
        clear hq hrow5 hb5 n1' n2' n3' HKY
        go_wp2_with fail
        refine (HCMP.out _).mono ?_
        rintro e w6 ⟨rfl, hx6⟩
        have hx6' : Ext w5 w6 := ((Ext.refl w5).alloc _).trans hx6
        have HB6 := Lib.hid (Below.then HB5.out hx6'.below HB5.out.size)
        have HI6 := Lib.hid (HI5.out.ext hx6')
        have HR6 := Lib.hid (HR5.out.up hx6'.below)
        clear hx6 hx6'
        by_cases hq0 : q = 0
        · have HG := Lib.hid (HN3'.out (HZ.out.1 hq0))
          subst hq0
          clear HN2' HN3' HZ
          go_wp2
          go_roundw
          case rel => exact ⟨k + 1, x3, s4, by omega, by go_num, HG.out, HI6.out, by omega, HR6.out, HB6.out⟩
          case measure => simp [intOf]; omega
        · have HK0 := Lib.hid (HN2'.out (fun e => hq0 (HZ.out.2 e)))
          have hqb : (q != 0) = true := by simpa using hq0
          clear HN2' HN3' HZ hq0
          go_wp2
          go_ret
          exact KidsPost.none HK0.out rfl HB6.out

end Go.Proofs.Ytlcammcifjihpaa

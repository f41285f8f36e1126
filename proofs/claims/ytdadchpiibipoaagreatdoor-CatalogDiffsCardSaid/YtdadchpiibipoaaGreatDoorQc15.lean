/- Parts of the proof, merged: C62, C63, C64. -/
import Derived.Test.YtdadchpiibipoaaGreatDoorQc14
import Derived.Test.YtdadchpiibipoaaGreatDoorQc6

set_option maxRecDepth 100000
namespace Go.Proofs.YtdadchpiibipoaaGreatDoor
section
open Go.RowKit Go.Sort Go.ChangeMaps Go.WideShapes

theorem minF_take {X Y : List RL.R} {k : Nat} (h : k < X.length) : minF (X.take (k + 1)) Y = minF (X.take k) Y ++ if X[k] ∈ Y then [] else [X[k]] := by
 unfold minF
 rw [List.take_succ_eq_append_getElem h, List.filter_append]
 congr 1
 by_cases hx : X[k] ∈ Y
 ·rw [if_pos hx, List.filter_cons_of_neg (by simp [hx])]; rfl
 ·rw [if_neg hx, List.filter_cons_of_pos (by simp [hx])]; rfl
theorem minF_len {X Y : List RL.R} : (minF X Y).length ≤ X.length := List.length_filter_le _ _
def delU (nm : ByteArray) (X Y : List RL.R) : List Upd := (minF X Y).map (fun x => (⟨true, nm, x⟩ : Upd))
def insU (nm : ByteArray) (X Y : List RL.R) : List Upd := (minF X Y).map (fun x => (⟨false, nm, x⟩ : Upd))
theorem delU_take {nm : ByteArray} {X Y : List RL.R} {k : Nat} (h : k < X.length) : delU nm (X.take (k + 1)) Y = delU nm (X.take k) Y ++ if X[k] ∈ Y then [] else [⟨true, nm, X[k]⟩] := by
 unfold delU
 rw [minF_take h, List.map_append]
 split <;> rfl
theorem insU_take {nm : ByteArray} {X Y : List RL.R} {k : Nat} (h : k < X.length) : insU nm (X.take (k + 1)) Y = insU nm (X.take k) Y ++ if X[k] ∈ Y then [] else [⟨false, nm, X[k]⟩] := by
 unfold insU
 rw [minF_take h, List.map_append]
 split <;> rfl
theorem delU_len {nm : ByteArray} {X Y : List RL.R} : (delU nm X Y).length ≤ X.length := by unfold delU; rw [List.length_map]; exact minF_len
theorem insU_len {nm : ByteArray} {X Y : List RL.R} : (insU nm X Y).length ≤ X.length := by unfold insU; rw [List.length_map]; exact minF_len

theorem own_at0 {w : World} {base : Nat} {e : TypeId} {A : Option Addr} {n C : Nat} {hs : List Value} (h : w.ownsRow base e 1 (.slice A n C) n hs) {k : Nat} {u : Value} (hu : hs[k]? = some u) : ∃ b o, A = some ⟨b, o, none⟩ ∧ b < w.heap.size ∧ w.cell? ⟨b, o + k, none⟩ = some u := by
 obtain ⟨A', C', e', -, hs'⟩ := Sl.of_own_n h
 injection e' with e1 e2 e3
 subst e1
 obtain ⟨hk, rfl⟩ := List.getElem?_eq_some_iff.1 hu
 exact hs'.at_ hk
theorem FactsM.lift {B C : Nat} {w w' : World} {A : Option Addr} {Fs : List Fact} (h : FactsM B w A Fs) (hb : Below C w w') (hB : B ≤ C) : FactsM B w' A Fs := fun hn => by
 obtain ⟨b, o, e, hbl, hc⟩ := h hn
 exact ⟨b, o, e, hbl, fun i hi => by
  obtain ⟨RA, RC, c0, c1, c2⟩ := hc i hi
  exact ⟨RA, RC, (hb.cell (p := ⟨b, _, none⟩) (Nat.lt_of_lt_of_le hbl hB)).trans c0, (hb.cell (p := ⟨b, _, none⟩) (Nat.lt_of_lt_of_le hbl hB)).trans c1, Sl.below c2 hb hB⟩⟩
theorem RowCs.back {B : Nat} {w V : World} {X : List RL.R} {hs : List Value} (h : RowCs B V X hs) (hb : Below B w V) : RowCs B w X hs :=
 ⟨h.len, h.one, fun i hi => by
  obtain ⟨RA, RC, a, b⟩ := h.at_ i hi
  exact ⟨RA, RC, a, Sl.keep b fun p hp => (hb.cell hp).symm⟩⟩
theorem diffF_le3 {F G : Cont} (h : ∀ nm, (F nm).length ≤ 200 ∧ (G nm).length ≤ 200) : ∀ ns : List ByteArray, (diffF ns F G).length ≤ ns.length * 400
 | [] => Nat.zero_le _
 | nm :: t => by
  have ih := diffF_le3 h t
  obtain ⟨a, b⟩ := h nm
  have h2 : (minF (F nm) (G nm)).length ≤ 200 := Nat.le_trans (List.length_filter_le _ _) a
  have h3 : (minF (G nm) (F nm)).length ≤ 200 := Nat.le_trans (List.length_filter_le _ _) b
  show (diff1 nm (F nm) (G nm) ++ diffF t F G).length ≤ (t.length + 1) * 400
  rw [List.length_append, diff1_len]
  omega

set_option maxHeartbeats 16000000 in
theorem r08Diff_any (SA : Option Addr) (SC : Nat) (S : Sch) (sv2 : Value) (FA GA : Option Addr) (FC GC : Nat) (F G : Cont) (Fs Gs : List Fact) (w : World) (hS : SchsM w.heap.size w SA S) (hSl : S.length ≤ 1000) (hnd : (S.map Prod.fst).Nodup)
  (hRF : RelF F Fs) (hRG : RelF G Gs) (hFM : FactsM w.heap.size w FA Fs) (hGM : FactsM w.heap.size w GA Gs) (hFl : Fs.length ≤ 200) (hGl : Gs.length ≤ 200) (hFr : ∀ f ∈ Fs, f.2.length ≤ 1000000) (hGr : ∀ f ∈ Gs, f.2.length ≤ 1000000) :
  Calls Tryz.prog 37 #[.agg #[.slice SA S.length SC, .slice FA Fs.length FC], .agg #[sv2, .slice GA Gs.length GC]] w fun e w' => ∃ A C, ∃ ns : List ByteArray, e = .returned (.slice A (diffF ns F G).length C) ∧ NamesOf S ns ∧ ∃ cs : List Value, UpdCs w.heap.size w (diffF ns F G) cs ∧ w'.ownsRow w.heap.size 53 3 (.slice A (diffF ns F G).length C) (diffF ns F G).length cs ∧ Below w.heap.size w w' := by
 obtain ⟨W0, hW0⟩ : ∃ W, W = (w.alloc (.cells #[.slice SA S.length SC, .slice FA Fs.length FC] 31)).alloc (.cells #[sv2, .slice GA Gs.length GC] 31) := ⟨_, rfl⟩
 have hx0 : Ext w W0 := by rw [hW0]; exact ((Ext.refl w).alloc _).alloc _
 have hr2 : Row W0 w.heap.size 31 [.slice SA S.length SC, .slice FA Fs.length FC] := by rw [hW0]; exact (Row.new w 31 _).alloc _
 have hr3 : Row W0 (w.heap.size + 1) 31 [sv2, .slice GA Gs.length GC] := by
  have h := Row.new (w.alloc (.cells #[.slice SA S.length SC, .slice FA Fs.length FC] 31)) 31 [sv2, .slice GA Gs.length GC]
  rw [World.size_alloc] at h
  rw [hW0]; exact h
 have HB0 := Lib.hid hx0.below
 have HR2 := Lib.hid hr2
 have HR3 := Lib.hid hr3
 have HRF := Lib.hid hRF
 have HRG := Lib.hid hRG
 have HFM := Lib.hid hFM
 have HGM := Lib.hid hGM
 have HFR := Lib.hid hFr
 have HGR := Lib.hid hGr
 have HFL : Hid (Fs.length ≤ 200 ∧ Gs.length ≤ 200) := ⟨hFl, hGl⟩
 have HLN := Lib.hid (fun (ns : List ByteArray) => diffF_le3 (F := F) (G := G) (fun nm => ⟨Nat.le_trans (hRF.len nm) hFl, Nat.le_trans (hRG.len nm) hGl⟩) ns)
 have HNM := Lib.hid (r08Names_any SA SC S (.slice FA Fs.length FC) W0 (hS.up hx0.below) hSl hnd)
 obtain ⟨g2, hg2⟩ : ∃ g, g = w.heap.size := ⟨_, rfl⟩
 obtain ⟨g3, hg3⟩ : ∃ g, g = w.heap.size + 1 := ⟨_, rfl⟩
 rw [← hg2] at HR2
 rw [← hg3] at HR3
 have c20 : W0.cell? ⟨g2, 0, none⟩ = some (.slice SA S.length SC) := HR2.out.cell 0
 have c21 : W0.cell? ⟨g2, 1, none⟩ = some (.slice FA Fs.length FC) := HR2.out.cell 1
 have z2 := HR2.out.lt
 clear hS hnd hRF hRG hFM hGM hFr hGr hx0 hr2 hr3 hFl hGl
 go_enter Tryz.func37, Tryz.ntmps37
 go_upto_region 1 with (fail)
 rw [← hW0, ← hg3, ← hg2]
 clear hW0 hg2 hg3
 go_wp2_with fail
 refine HNM.out.mono ?_
 rintro e w1 ⟨NA, NC, ns, rfl, hns, hsl, hb1⟩
 obtain ⟨B, hB⟩ : ∃ B, B = w1.heap.size := ⟨_, rfl⟩
 have HBE : Hid (B = w1.heap.size) := hB
 have HNS := Lib.hid hns
 have HSLN : Hid (Sl B w1 NA (ns.map Value.string)) := by show Sl _ _ _ _; rw [hB]; exact hsl
 have HB1 := Lib.hid (HB0.out.trans (hb1.mono HB0.out.size))
 have HWB : Hid (w.heap.size ≤ B) := by show _ ≤ _; rw [hB]; exact HB1.out.size
 have hnl : ns.length ≤ 1000 := by have h := hns.1.length_eq; rw [List.length_map] at h; omega
 have HG2 : Hid (g2 < B ∧ g3 < B) := ⟨by rw [hB]; exact Nat.lt_of_lt_of_le z2 hb1.size, by rw [hB]; exact Nat.lt_of_lt_of_le HR3.out.lt hb1.size⟩
 have HKB : Hid (∀ V, Below B w1 V → V.cell? ⟨g2, 0, none⟩ = some (.slice SA S.length SC) ∧ V.cell? ⟨g2, 1, none⟩ = some (.slice FA Fs.length FC) ∧ V.cell? ⟨g3, 0, none⟩ = some sv2 ∧ V.cell? ⟨g3, 1, none⟩ = some (.slice GA Gs.length GC) ∧ Below w.heap.size w V) := fun V hb => by
  have h2 := (HR2.out.up hb1).below hb HG2.out.1
  have h3 := (HR3.out.up hb1).below hb HG2.out.2
  exact ⟨h2.cell 0, h2.cell 1, h3.cell 0, h3.cell 1, HB1.out.trans (hb.mono HWB.out)⟩
 clear hns hsl hb1 hB c20 c21 z2 HNM
 go_wp2_with fail
 go_loopw [5, 7] (fun v c wx => ∃ (i : Nat) (cs : List Value), i ≤ ns.length ∧ c = .int .i64 i ∧ wx.ownsRow B 53 3 v (diffF (ns.take i) F G).length cs ∧ UpdCs w.heap.size w (diffF (ns.take i) F G) cs ∧ Below B w1 wx) (fun _ c _ => ns.length - (intOf c).toNat)
 case atStart => exact ⟨0, [], Nat.zero_le _, rfl, own_nil _ _ _ _, UpdCs.nil, Below.refl _ _⟩
 case round =>
  obtain ⟨i, cs, hi, rfl, hown, hcs, hbr⟩ := hrel
  obtain ⟨wo, hwo⟩ : ∃ wo, wo = wr := ⟨_, rfl⟩
  subst hwo
  obtain ⟨vo, hvo⟩ : ∃ v, v = u5 := ⟨_, rfl⟩
  subst hvo
  have HOWN := Lib.hid hown
  have HCS := Lib.hid hcs
  have HBR := Lib.hid hbr
  clear hown hcs hbr
  by_cases hil : i < ns.length
  rotate_left
  ·obtain rfl : i = ns.length := by omega
   rw [List.take_length] at HOWN HCS
   have r1 : ¬ (ns.length : Int) < (ns.length : Int) := by omega
   have HEND := Lib.hid (HKB.out wo HBR.out).2.2.2.2
   obtain ⟨VA, VC, rfl, -, -⟩ := Sl.of_own_n HOWN.out
   clear hil
   go_wp2_with fail
   go_ret
   exact ⟨VA, VC, ns, rfl, HNS.out, cs, HCS.out, own_weaken HOWN.out HWB.out, HEND.out⟩
  obtain ⟨nb, no, rfl, hnb, n0⟩ := HSLN.out.at_ (k := i) (by rw [List.length_map]; exact hil)
  rw [List.getElem_map] at n0
  have HSTEP := Lib.hid (diffF_snoc ns F G i hil)
  have HLI : Hid ((diffF (ns.take i) F G).length ≤ 400000) := by
   show _ ≤ _
   have h := HLN.out (ns.take i)
   rw [List.length_take] at h
   omega
  generalize ns[i] = nm at *
  have HLF : Hid ((F nm).length ≤ 200 ∧ (G nm).length ≤ 200) := ⟨Nat.le_trans (HRF.out.len nm) HFL.out.1, Nat.le_trans (HRG.out.len nm) HFL.out.2⟩
  have HN0 := Lib.hid n0
  have HHF : Hid (∀ V, Below B w1 V → ∀ (RA : Option Addr) (RC : Nat) (x : RL.R), SlR w.heap.size w RA x → x.length ≤ 1000000 → Calls Tryz.prog 65 #[.agg #[.slice SA S.length SC, .slice FA Fs.length FC], .string nm, .slice RA x.length RC] V fun e V' => e = .returned (.bool (decide (x ∈ F nm))) ∧ Ext V V') := fun V hb RA RC x hx hxl => by
   have hbw := (HKB.out V hb).2.2.2.2
   have h := r08Has_any (.slice SA S.length SC) FA FC Fs nm RA RC x V (HFM.out.up hbw) (by have := HFL.out; omega) HFR.out (Sl.more (Sl.below hx hbw (Nat.le_refl _)) hbw.size) hxl
   rw [HRF.out.has] at h
   exact h
  have HHG : Hid (∀ V, Below B w1 V → ∀ (RA : Option Addr) (RC : Nat) (x : RL.R), SlR w.heap.size w RA x → x.length ≤ 1000000 → Calls Tryz.prog 65 #[.agg #[sv2, .slice GA Gs.length GC], .string nm, .slice RA x.length RC] V fun e V' => e = .returned (.bool (decide (x ∈ G nm))) ∧ Ext V V') := fun V hb RA RC x hx hxl => by
   have hbw := (HKB.out V hb).2.2.2.2
   have h := r08Has_any sv2 GA GC Gs nm RA RC x V (HGM.out.up hbw) (by have := HFL.out; omega) HGR.out (Sl.more (Sl.below hx hbw (Nat.le_refl _)) hbw.size) hxl
   rw [HRG.out.has] at h
   exact h
  have HRWF : Hid (∀ V, Below B w1 V → Calls Tryz.prog 15 #[.agg #[.slice SA S.length SC, .slice FA Fs.length FC], .string nm] V fun e V' => ∃ OA OC, ∃ hs : List Value, e = .returned (.slice OA (F nm).length OC) ∧ RowCs w.heap.size w (F nm) hs ∧ V'.ownsRow B 42 1 (.slice OA (F nm).length OC) (F nm).length hs ∧ Below V.heap.size V V') := fun V hb => by
   have hbw := (HKB.out V hb).2.2.2.2
   have hbz : B ≤ V.heap.size := by have h1 := HBE.out; have h2 := hb.size; omega
   refine (r08Rows_at w.heap.size (.slice SA S.length SC) FA FC F Fs nm V HRF.out hbw.size (HFM.out.lift hbw (Nat.le_refl _)) (by have := HFL.out; omega) HFR.out).mono ?_
   rintro e V' ⟨OA, OC, he, hs, h1, h2, h3⟩
   exact ⟨OA, OC, hs, he, h1.back hbw, own_weaken h2 (by omega), h3⟩
  have HRWG : Hid (∀ V, Below B w1 V → Calls Tryz.prog 15 #[.agg #[sv2, .slice GA Gs.length GC], .string nm] V fun e V' => ∃ OA OC, ∃ hs : List Value, e = .returned (.slice OA (G nm).length OC) ∧ RowCs w.heap.size w (G nm) hs ∧ V'.ownsRow B 42 1 (.slice OA (G nm).length OC) (G nm).length hs ∧ Below V.heap.size V V') := fun V hb => by
   have hbw := (HKB.out V hb).2.2.2.2
   have hbz : B ≤ V.heap.size := by have h1 := HBE.out; have h2 := hb.size; omega
   refine (r08Rows_at w.heap.size sv2 GA GC G Gs nm V HRG.out hbw.size (HGM.out.lift hbw (Nat.le_refl _)) (by have := HFL.out; omega) HGR.out).mono ?_
   rintro e V' ⟨OA, OC, he, hs, h1, h2, h3⟩
   exact ⟨OA, OC, hs, he, h1.back hbw, own_weaken h2 (by omega), h3⟩
  have HFX : Hid (∀ x ∈ F nm, x.length ≤ 1000000) := fun x hx => HFR.out _ ((HRF.out.2.2 nm x).1 hx)
  have HGX : Hid (∀ x ∈ G nm, x.length ≤ 1000000) := fun x hx => HGR.out _ ((HRG.out.2.2 nm x).1 hx)
  have HSTEP2 : Hid (diffF (ns.take (i + 1)) F G = diffF (ns.take i) F G ++ delU nm (F nm) (G nm) ++ insU nm (G nm) (F nm)) := by
   show _ = _
   rw [HSTEP.out, List.append_assoc]; rfl
  generalize diffF (ns.take i) F G = U at *
  generalize F nm = X at *
  generalize G nm = Y at *
  have g1 : (0 : Int) ≤ (i : Int) := by omega
  have g4 : (i : Int) < (ns.length : Int) := by omega
  have hw1 : IntKind.i64.wrap ((i : Int) + 1) = ((i + 1 : Nat) : Int) := by rw [IntWalk.i64_in _ (by omega)]; omega
  have HKN : Hid (∀ V, Below B w1 V → V.cell? ⟨g2, 0, none⟩ = some (.slice SA S.length SC) ∧ V.cell? ⟨g2, 1, none⟩ = some (.slice FA Fs.length FC) ∧ V.cell? ⟨g3, 0, none⟩ = some sv2 ∧ V.cell? ⟨g3, 1, none⟩ = some (.slice GA Gs.length GC) ∧ V.cell? ⟨nb, no + i, none⟩ = some (.string nm) ∧ g2 < V.heap.size ∧ g3 < V.heap.size ∧ nb < V.heap.size ∧ B ≤ V.heap.size) := fun V hb => by
   obtain ⟨a, b, c, d, -⟩ := HKB.out V hb
   have hbz : B ≤ V.heap.size := by have h1 := HBE.out; have h2 := hb.size; omega
   have := HG2.out
   exact ⟨a, b, c, d, (hb.cell (p := ⟨nb, no + i, none⟩) hnb).trans HN0.out, by omega, by omega, by omega, hbz⟩
  have HIL := Lib.hid hil
  clear n0 hil
  have HK1 : Hid (∀ V, Below B w1 V → V.cell? ⟨g2, 0, none⟩ = some (.slice SA S.length SC) ∧ V.cell? ⟨g2, 1, none⟩ = some (.slice FA Fs.length FC) ∧ V.cell? ⟨nb, no + i, none⟩ = some (.string nm)) := fun V hb => by
   have h := HKN.out V hb
   exact ⟨h.1, h.2.1, h.2.2.2.2.1⟩
  have HJ1 : Hid (∀ V, Below B w1 V → V.cell? ⟨g3, 0, none⟩ = some sv2 ∧ V.cell? ⟨g3, 1, none⟩ = some (.slice GA Gs.length GC) ∧ V.cell? ⟨nb, no + i, none⟩ = some (.string nm)) := fun V hb => by
   have h := HKN.out V hb
   exact ⟨h.2.2.1, h.2.2.2.1, h.2.2.2.2.1⟩
  obtain ⟨-, -, -, -, -, zg2, zg3, znb, -⟩ := HKN.out wo HBR.out
  go_upto_region 6 with (fail)
  refine wp_region_held_drew (S := (fun V => V.cell? ⟨g2, 0, none⟩ = some (.slice SA S.length SC) ∧ V.cell? ⟨g2, 1, none⟩ = some (.slice FA Fs.length FC) ∧ V.cell? ⟨nb, no + i, none⟩ = some (.string nm))) (by kernel_rfl) (HK1.out wo.drew HBR.out.drew) (fun hHeld => ?_)
  refine takeOp (i := 0) (v := ?_) (some 20) rfl rfl (by kernel_rfl) (by kernel_rfl) (by kernel_rfl) (fun _ _ _ h => h) (Or.inl ⟨by rfl, ?_⟩) (by assumption) ?_
  rotate_left 1
  ·(intro w0 hSw; (try dsimp only at hSw); go_simp; try (with_reducible rfl))
  try simp only [Act.put, List.setIfInBounds_toArray, List.set_cons_succ, List.set_cons_zero]
  refine takeOp (i := 1) (v := ?_) (some 21) rfl rfl (by kernel_rfl) (by kernel_rfl) (by kernel_rfl) (fun _ _ _ h => h) (Or.inl ⟨by rfl, ?_⟩) (by assumption) ?_
  rotate_left 1
  ·(intro w0 hSw; (try dsimp only at hSw); go_simp; try (with_reducible rfl))
  try simp only [Act.put, List.setIfInBounds_toArray, List.set_cons_succ, List.set_cons_zero]
  refine takeOp (i := 2) (v := ?_) (some 22) rfl rfl (by kernel_rfl) (by kernel_rfl) (by kernel_rfl) (fun _ _ _ h => h) (Or.inl ⟨by rfl, ?_⟩) (by assumption) ?_
  rotate_left 1
  ·(intro w0 hSw; (try dsimp only at hSw); go_simp; try (with_reducible rfl))
  try simp only [Act.put, List.setIfInBounds_toArray, List.set_cons_succ, List.set_cons_zero]
  refine takeOp (i := 3) (v := ?_) (some 23) rfl rfl (by kernel_rfl) (by kernel_rfl) (by kernel_rfl) (fun _ _ _ h => h) (Or.inl ⟨by rfl, ?_⟩) (by assumption) ?_
  rotate_left 1
  ·(intro w0 hSw; (try dsimp only at hSw); go_simp; try (with_reducible rfl))
  try simp only [Act.put, List.setIfInBounds_toArray, List.set_cons_succ, List.set_cons_zero]
  refine takeOp (i := 4) (v := ?_) (some 24) rfl rfl (by kernel_rfl) (by kernel_rfl) (by kernel_rfl) (fun _ _ _ h => h) (Or.inl ⟨by rfl, ?_⟩) (by assumption) ?_
  rotate_left 1
  ·(intro w0 hSw; (try dsimp only at hSw); go_simp; try (with_reducible rfl))
  try simp only [Act.put, List.setIfInBounds_toArray, List.set_cons_succ, List.set_cons_zero]
  refine wpAnyH_ready (rs := [5]) (by kernel_rfl) (by simp) ?_
  refine AllReadyH.cons rfl (fun K hK => ?_) AllReadyH.nil
  go_simp
  refine (HRWF.out wo.drew HBR.out.drew).mono ?_
  rintro e wa1 ⟨OA1, OC1, hs1, rfl, hrc, hro, hba⟩
  have hba : Below wo.heap.size wo wa1 := Below.undrew hba
  have HBA1 := Lib.hid (HBR.out.trans (hba.mono (HKN.out wo HBR.out).2.2.2.2.2.2.2.2))
  have HRC1 := Lib.hid hrc
  have HRO1 := Lib.hid hro
  have HOA1 := Lib.hid (own_keep HOWN.out hba)
  clear hrc hro hba
  go_wp2_with fail
  refine hK.out _ _ (HK1.out wa1 HBA1.out) (fun hHeld => ?_)
  clear hK K
  try simp only [Act.put, List.setIfInBounds_toArray, List.set_cons_succ, List.set_cons_zero]
  refine takeOp (i := 6) (v := ?_) (some 8) rfl rfl (by kernel_rfl) (by kernel_rfl) (by kernel_rfl) (fun _ _ _ h => h) (Or.inl ⟨by rfl, ?_⟩) (by assumption) ?_
  rotate_left 1
  ·(intro w0 hSw; (try dsimp only at hSw); go_simp; try (with_reducible rfl))
  try simp only [Act.put, List.setIfInBounds_toArray, List.set_cons_succ, List.set_cons_zero]
  refine wpAnyH_done (by kernel_rfl) ?_ _
  clear zg2 zg3 znb
  go_wp2_with fail
  go_loopw [5, 9] (fun v c wx => ∃ (k : Nat) (cs : List Value), k ≤ X.length ∧ c = .int .i64 k ∧ wx.ownsRow B 53 3 v (U ++ delU nm (X.take k) Y).length cs ∧ UpdCs w.heap.size w (U ++ delU nm (X.take k) Y) cs ∧ wx.ownsRow B 42 1 (.slice OA1 X.length OC1) X.length hs1 ∧ Below B w1 wx) (fun _ c _ => X.length - (intOf c).toNat)
  case atStart => exact ⟨0, _, Nat.zero_le _, rfl, by rw [show delU nm (X.take 0) Y = [] from rfl, List.append_nil]; exact HOA1.out, by rw [show delU nm (X.take 0) Y = [] from rfl, List.append_nil]; exact HCS.out, HRO1.out, HBA1.out⟩
  case round =>
   obtain ⟨k, cs1, hk, rfl, hown, hcs, hold, hbk⟩ := hrel
   obtain ⟨wk1, hwk⟩ : ∃ wk, wk = wr := ⟨_, rfl⟩
   subst hwk
   obtain ⟨vk1, hvk⟩ : ∃ v, v = u5 := ⟨_, rfl⟩
   subst hvk
   have HO1 := Lib.hid hown
   have HC1 := Lib.hid hcs
   have HD1 := Lib.hid hold
   have HBK1 := Lib.hid hbk
   clear hown hcs hold hbk
   by_cases hkl : k < X.length
   ·obtain ⟨RA, RC, y0, hx0⟩ := HRC1.out.at_ k hkl
    obtain ⟨ob, oo, hoa, hob, o0⟩ := own_at0 HD1.out y0
    subst hoa
    have HAT : Hid (∀ V : World, V.ownsRow B 42 1 (.slice (some ⟨ob, oo, none⟩) X.length OC1) X.length hs1 → V.cell? ⟨ob, oo + k, none⟩ = some (.slice RA X[k].length RC)) := fun V h => by
     obtain ⟨b, o, e, -, hc⟩ := own_at0 h y0
     injection e with e
     injection e with e1 e2
     subst e1 e2
     exact hc
    have HTK := Lib.hid (delU_take (nm := nm) (Y := Y) hkl)
    have HXL := Lib.hid (HFX.out _ (List.getElem_mem hkl))
    have HX0 := Lib.hid hx0
    have hxlen := HLF.out
    have HKL := Lib.hid hkl
    have HLD : Hid ((U ++ delU nm (X.take k) Y).length ≤ 500000) := by
     show _ ≤ _
     have h := delU_len (nm := nm) (X := X.take k) (Y := Y)
     have h2 := HLI.out
     have h3 := HLF.out
     rw [List.length_take] at h
     simp only [List.length_append] at *
     omega
    clear y0 hx0
    generalize X[k] = x at *
    have q0 : (0 : Int) ≤ (k : Int) := by omega
    have q1 : (k : Int) < (X.length : Int) := by omega
    have hw2 : IntKind.i64.wrap ((k : Int) + 1) = ((k + 1 : Nat) : Int) := by rw [IntWalk.i64_in _ (by omega)]; omega
    obtain ⟨-, -, -, -, -, zg2, zg3, znb, hbz⟩ := HKN.out wk1 HBK1.out
    have HHH : Hid (∀ V, Below B w1 V → Calls Tryz.prog 65 #[.agg #[sv2, .slice GA Gs.length GC], .string nm, .slice RA x.length RC] V fun e V' => e = .returned (.bool (decide (x ∈ Y))) ∧ Ext V V') := fun V hb => HHG.out V hb RA RC x HX0.out HXL.out
    clear hkl
    go_upto_region 10 with (fail)
    refine wp_region_held_drew (S := (fun V => (V.cell? ⟨g3, 0, none⟩ = some sv2 ∧ V.cell? ⟨g3, 1, none⟩ = some (.slice GA Gs.length GC) ∧ V.cell? ⟨nb, no + i, none⟩ = some (.string nm)) ∧ V.cell? ⟨ob, oo + k, none⟩ = some (.slice RA x.length RC))) (by kernel_rfl) ⟨HJ1.out wk1.drew HBK1.out.drew, o0⟩ (fun hHeld => ?_)
    refine takeOp (i := 0) (v := ?_) (some 32) rfl rfl (by kernel_rfl) (by kernel_rfl) (by kernel_rfl) (fun _ _ _ h => h) (Or.inl ⟨by rfl, ?_⟩) (by assumption) ?_
    rotate_left 1
    ·(intro w0 hSw; (try dsimp only at hSw); go_simp; try (with_reducible rfl))
    try simp only [Act.put, List.setIfInBounds_toArray, List.set_cons_succ, List.set_cons_zero]
    refine takeOp (i := 1) (v := ?_) (some 33) rfl rfl (by kernel_rfl) (by kernel_rfl) (by kernel_rfl) (fun _ _ _ h => h) (Or.inl ⟨by rfl, ?_⟩) (by assumption) ?_
    rotate_left 1
    ·(intro w0 hSw; (try dsimp only at hSw); go_simp; try (with_reducible rfl))
    try simp only [Act.put, List.setIfInBounds_toArray, List.set_cons_succ, List.set_cons_zero]
    refine takeOp (i := 2) (v := ?_) (some 34) rfl rfl (by kernel_rfl) (by kernel_rfl) (by kernel_rfl) (fun _ _ _ h => h) (Or.inl ⟨by rfl, ?_⟩) (by assumption) ?_
    rotate_left 1
    ·(intro w0 hSw; (try dsimp only at hSw); go_simp; try (with_reducible rfl))
    try simp only [Act.put, List.setIfInBounds_toArray, List.set_cons_succ, List.set_cons_zero]
    refine takeOp (i := 3) (v := ?_) (some 35) rfl rfl (by kernel_rfl) (by kernel_rfl) (by kernel_rfl) (fun _ _ _ h => h) (Or.inl ⟨by rfl, ?_⟩) (by assumption) ?_
    rotate_left 1
    ·(intro w0 hSw; (try dsimp only at hSw); go_simp; try (with_reducible rfl))
    try simp only [Act.put, List.setIfInBounds_toArray, List.set_cons_succ, List.set_cons_zero]
    refine takeOp (i := 4) (v := ?_) (some 36) rfl rfl (by kernel_rfl) (by kernel_rfl) (by kernel_rfl) (fun _ _ _ h => h) (Or.inl ⟨by rfl, ?_⟩) (by assumption) ?_
    rotate_left 1
    ·(intro w0 hSw; (try dsimp only at hSw); go_simp; try (with_reducible rfl))
    try simp only [Act.put, List.setIfInBounds_toArray, List.set_cons_succ, List.set_cons_zero]
    refine takeOp (i := 5) (v := ?_) (some 37) rfl rfl (by kernel_rfl) (by kernel_rfl) (by kernel_rfl) (fun _ _ _ h => h) (Or.inl ⟨by rfl, ?_⟩) (by assumption) ?_
    rotate_left 1
    ·(intro w0 hSw; (try dsimp only at hSw); go_simp; try (with_reducible rfl))
    try simp only [Act.put, List.setIfInBounds_toArray, List.set_cons_succ, List.set_cons_zero]
    refine takeOp (i := 6) (v := ?_) (some 38) rfl rfl (by kernel_rfl) (by kernel_rfl) (by kernel_rfl) (fun _ _ _ h => h) (Or.inl ⟨by rfl, ?_⟩) (by assumption) ?_
    rotate_left 1
    ·(intro w0 hSw; (try dsimp only at hSw); go_simp; try (with_reducible rfl))
    try simp only [Act.put, List.setIfInBounds_toArray, List.set_cons_succ, List.set_cons_zero]
    refine takeOp (i := 7) (v := ?_) (some 39) rfl rfl (by kernel_rfl) (by kernel_rfl) (by kernel_rfl) (fun _ _ _ h => h) (Or.inl ⟨by rfl, ?_⟩) (by assumption) ?_
    rotate_left 1
    ·(intro w0 hSw; (try dsimp only at hSw); go_simp; try (with_reducible rfl))
    try simp only [Act.put, List.setIfInBounds_toArray, List.set_cons_succ, List.set_cons_zero]
    refine takeOp (i := 8) (v := ?_) (some 40) rfl rfl (by kernel_rfl) (by kernel_rfl) (by kernel_rfl) (fun _ _ _ h => h) (Or.inl ⟨by rfl, ?_⟩) (by assumption) ?_
    rotate_left 1
    ·(intro w0 hSw; (try dsimp only at hSw); go_simp; try (with_reducible rfl))
    try simp only [Act.put, List.setIfInBounds_toArray, List.set_cons_succ, List.set_cons_zero]
    refine wpAnyH_ready (rs := [9]) (by kernel_rfl) (by simp) ?_
    refine AllReadyH.cons rfl (fun K hK => ?_) AllReadyH.nil
    go_simp
    refine (HHH.out wk1.drew HBK1.out.drew).mono ?_
    rintro e wh ⟨rfl, hxh⟩
    have hxh : Ext wk1 wh := (Ext.refl wk1).drew.trans hxh
    have HXH := Lib.hid hxh
    have HBH := Lib.hid (HBK1.out.trans (hxh.below.mono hbz))
    have HKK : Hid ((wh.cell? ⟨g3, 0, none⟩ = some sv2 ∧ wh.cell? ⟨g3, 1, none⟩ = some (.slice GA Gs.length GC) ∧ wh.cell? ⟨nb, no + i, none⟩ = some (.string nm)) ∧ wh.cell? ⟨ob, oo + k, none⟩ = some (.slice RA x.length RC)) := ⟨HJ1.out wh HBH.out, (hxh.cell hob).trans o0⟩
    clear hxh
    go_wp2_with fail
    refine hK.out _ _ HKK.out (fun hHeld => ?_)
    clear hK K
    try simp only [Act.put, List.setIfInBounds_toArray, List.set_cons_succ, List.set_cons_zero]
    refine takeOp (i := 10) (v := ?_) (some 42) rfl rfl (by kernel_rfl) (by kernel_rfl) (by kernel_rfl) (fun _ _ _ h => h) (Or.inl ⟨by rfl, ?_⟩) (by assumption) ?_
    rotate_left 1
    ·(intro w0 hSw; (try dsimp only at hSw); go_simp; try (with_reducible rfl))
    try simp only [Act.put, List.setIfInBounds_toArray, List.set_cons_succ, List.set_cons_zero]
    refine wpAnyH_done (by kernel_rfl) ?_ _
    have HOH := Lib.hid (own_keep HO1.out HXH.out.below)
    have HDH := Lib.hid (own_keep HD1.out HXH.out.below)
    clear zg2 zg3 znb hbz HHH o0 hob
    by_cases hxy : x ∈ Y
    ·have hd : decide (x ∈ Y) = true := decide_eq_true hxy
     have HT2 : Hid (delU nm (X.take (k + 1)) Y = delU nm (X.take k) Y) := by show _ = _; rw [HTK.out, if_pos hxy, List.append_nil]
     rw [hd]
     clear hxy hd
     go_wp2_with fail
     go_roundw
     case rel => exact ⟨k + 1, cs1, HKL.out, by go_num, by rw [HT2.out]; exact HOH.out, by rw [HT2.out]; exact HC1.out, HDH.out, HBH.out⟩
     case measure => have := HKL.out; simp [intOf]; omega
    ·have hd : decide (x ∈ Y) = false := decide_eq_false hxy
     have HT2 : Hid (U ++ delU nm (X.take (k + 1)) Y = (U ++ delU nm (X.take k) Y) ++ [⟨true, nm, x⟩]) := by show _ = _; rw [HTK.out, if_neg hxy]; simp only [List.append_assoc]
     rw [hd]
     clear hxy hd
     obtain ⟨-, -, -, -, n0, -, -, znb, hbz⟩ := HKN.out wh HBH.out
     have o0 := HAT.out wh HDH.out
     have hob2 : ob < wh.heap.size := own_lt HDH.out ob rfl
     go_upto_region 11 with (fail)
     refine wp_region_held_drew (S := (fun V => V.cell? ⟨nb, no + i, none⟩ = some (.string nm) ∧ V.cell? ⟨ob, oo + k, none⟩ = some (.slice RA x.length RC))) (by kernel_rfl) ⟨n0, o0⟩ (fun hHeld => ?_)
     refine takeOp (i := 0) (v := ?_) (some 43) rfl rfl (by kernel_rfl) (by kernel_rfl) (by kernel_rfl) (fun _ _ _ h => h) (Or.inl ⟨by rfl, ?_⟩) (by assumption) ?_
     rotate_left 1
     ·(intro w0 hSw; (try dsimp only at hSw); go_simp; try (with_reducible rfl))
     try simp only [Act.put, List.setIfInBounds_toArray, List.set_cons_succ, List.set_cons_zero]
     refine takeOp (i := 1) (v := ?_) (some 44) rfl rfl (by kernel_rfl) (by kernel_rfl) (by kernel_rfl) (fun _ _ _ h => h) (Or.inl ⟨by rfl, ?_⟩) (by assumption) ?_
     rotate_left 1
     ·(intro w0 hSw; (try dsimp only at hSw); go_simp; try (with_reducible rfl))
     try simp only [Act.put, List.setIfInBounds_toArray, List.set_cons_succ, List.set_cons_zero]
     refine takeOp (i := 2) (v := ?_) (some 45) rfl rfl (by kernel_rfl) (by kernel_rfl) (by kernel_rfl) (fun _ _ _ h => h) (Or.inl ⟨by rfl, ?_⟩) (by assumption) ?_
     rotate_left 1
     ·(intro w0 hSw; (try dsimp only at hSw); go_simp; try (with_reducible rfl))
     try simp only [Act.put, List.setIfInBounds_toArray, List.set_cons_succ, List.set_cons_zero]
     refine takeOp (i := 3) (v := ?_) (some 46) rfl rfl (by kernel_rfl) (by kernel_rfl) (by kernel_rfl) (fun _ _ _ h => h) (Or.inl ⟨by rfl, ?_⟩) (by assumption) ?_
     rotate_left 1
     ·(intro w0 hSw; (try dsimp only at hSw); go_simp; try (with_reducible rfl))
     try simp only [Act.put, List.setIfInBounds_toArray, List.set_cons_succ, List.set_cons_zero]
     refine takeOp (i := 4) (v := ?_) (some 47) rfl rfl (by kernel_rfl) (by kernel_rfl) (by kernel_rfl) (fun _ _ _ h => h) (Or.inl ⟨by rfl, ?_⟩) (by assumption) ?_
     rotate_left 1
     ·(intro w0 hSw; (try dsimp only at hSw); go_simp; try (with_reducible rfl))
     try simp only [Act.put, List.setIfInBounds_toArray, List.set_cons_succ, List.set_cons_zero]
     refine takeOp (i := 5) (v := ?_) (some 48) rfl rfl (by kernel_rfl) (by kernel_rfl) (by kernel_rfl) (fun _ _ _ h => h) (Or.inl ⟨by rfl, ?_⟩) (by assumption) ?_
     rotate_left 1
     ·(intro w0 hSw; (try dsimp only at hSw); go_simp; try (with_reducible rfl))
     try simp only [Act.put, List.setIfInBounds_toArray, List.set_cons_succ, List.set_cons_zero]
     refine takeOp (i := 6) (v := ?_) (some 49) rfl rfl (by kernel_rfl) (by kernel_rfl) (by kernel_rfl) (fun _ _ _ h => h) (Or.inl ⟨by rfl, ?_⟩) (by assumption) ?_
     rotate_left 1
     ·(intro w0 hSw; (try dsimp only at hSw); go_simp; try (with_reducible rfl))
     try simp only [Act.put, List.setIfInBounds_toArray, List.set_cons_succ, List.set_cons_zero]
     refine takeOp (i := 7) (v := ?_) (some 50) rfl rfl (by kernel_rfl) (by kernel_rfl) (by kernel_rfl) (fun _ _ _ h => h) (Or.inl ⟨by rfl, ?_⟩) (by assumption) ?_
     rotate_left 1
     ·(intro w0 hSw; (try dsimp only at hSw); go_simp; try (with_reducible rfl))
     try simp only [Act.put, List.setIfInBounds_toArray, List.set_cons_succ, List.set_cons_zero]
     refine takeOp (i := 8) (v := ?_) (some 51) rfl rfl (by kernel_rfl) (by kernel_rfl) (by kernel_rfl) (fun _ _ _ h => h) (Or.inl ⟨by rfl, ?_⟩) (by assumption) ?_
     rotate_left 1
     ·(intro w0 hSw; (try dsimp only at hSw); go_simp; try (with_reducible rfl))
     try simp only [Act.put, List.setIfInBounds_toArray, List.set_cons_succ, List.set_cons_zero]
     refine takeOp (i := 9) (v := ?_) (some 52) rfl rfl (by kernel_rfl) (by kernel_rfl) (by kernel_rfl) (fun _ _ _ h => h) (Or.inl ⟨by rfl, ?_⟩) (by assumption) ?_
     rotate_left 1
     ·(intro w0 hSw; (try dsimp only at hSw); go_simp; try (with_reducible rfl))
     try simp only [Act.put, List.setIfInBounds_toArray, List.set_cons_succ, List.set_cons_zero]
     refine wpAnyH_ready (rs := [10]) (by kernel_rfl) (by simp) ?_
     refine AllReadyH.cons rfl (fun K hK => ?_) AllReadyH.nil
     go_simp
     obtain ⟨wb, hV⟩ : ∃ V', V' = (wh.alloc (.cells #[.bool true, .string nm, .slice RA x.length RC] 53)).drew := ⟨_, rfl⟩
     rw [← hV]
     have hxb : Ext wh wb := by rw [hV]; exact ((Ext.refl wh).alloc _).drew
     obtain ⟨eb, heb⟩ : ∃ g, g = wh.heap.size := ⟨_, rfl⟩
     have HEB : Hid (Row wb eb 53 [.bool true, .string nm, .slice RA x.length RC]) := by show Row _ _ _ _; rw [hV, heb]; exact (Row.new wh 53 [.bool true, .string nm, .slice RA x.length RC]).drew
     have HBB := Lib.hid (HBH.out.trans (hxb.below.mono hbz))
     have HOB := Lib.hid (own_keep HOH.out hxb.below)
     have HDB := Lib.hid (own_keep HDH.out hxb.below)
     have HKA : Hid (wb.cell? ⟨nb, no + i, none⟩ = some (.string nm) ∧ wb.cell? ⟨ob, oo + k, none⟩ = some (.slice RA x.length RC)) := ⟨(hxb.cell znb).trans n0, HAT.out wb HDB.out⟩
     have hbzb : B ≤ wb.heap.size := Nat.le_trans hbz hxb.size
     try rw [show wh.drew.heap.size = eb from heb.symm]
     try rw [← heb]
     clear hV hxb heb
     refine hK.out _ _ HKA.out (fun hHeld => ?_)
     clear hK K
     try simp only [Act.put, List.setIfInBounds_toArray, List.set_cons_succ, List.set_cons_zero]
     refine wpAnyH_ready (rs := [11]) (by kernel_rfl) (by simp) ?_
     refine AllReadyH.cons rfl (fun K hK => ?_) AllReadyH.nil
     refine stepXUpd rfl (.tmp 43) (.tmp 53) rfl B vk1 (U ++ delU nm (X.take k) Y).length cs1 (by simp [Act.eval]) HOB.out (some ⟨eb, 0, none⟩) 1 1 [.bool true, .string nm, .slice RA x.length RC] (by simp [Act.eval]) rfl HEB.out.sl (fun u hu => by simp at hu; rcases hu with rfl | rfl | rfl <;> rfl) (by have := HLD.out; omega) hbzb ?_
     intro vn wc k1 k2 k3
     have HON := Lib.hid k1
     have HDN := Lib.hid (own_grown HDB.out k2 fun q hq e => own_parts HDB.out HOB.out (by decide) q hq e.symm)
     have HBN : Hid (Below B w1 wc) := HBB.out.grown k2 hbzb fun q hq => own_base HOB.out hq
     have HKC : Hid (wc.cell? ⟨nb, no + i, none⟩ = some (.string nm) ∧ wc.cell? ⟨ob, oo + k, none⟩ = some (.slice RA x.length RC)) := ⟨(HKN.out wc HBN.out).2.2.2.2.1, HAT.out wc HDN.out⟩
     clear k1 k2 k3
     refine hK.out _ _ HKC.out (fun hHeld => ?_)
     clear hK K
     try simp only [Act.put]
     try simp only [List.setIfInBounds_toArray]
     try simp only [List.set_cons_succ]
     try simp only [List.set_cons_zero]
     refine takeOp (i := 12) (v := ?_) (some 5) rfl rfl (by kernel_rfl) (by kernel_rfl) (by kernel_rfl) (fun _ _ _ h => h) (Or.inl ⟨by rfl, ?_⟩) (by assumption) ?_
     rotate_left 1
     ·(intro w0 hSw; (try dsimp only at hSw); go_simp; try (with_reducible rfl))
     try simp only [Act.put]
     try simp only [List.setIfInBounds_toArray]
     try simp only [List.set_cons_succ]
     try simp only [List.set_cons_zero]
     refine wpAnyH_done (by kernel_rfl) ?_ _
     go_wp2_with fail
     have HCN := Lib.hid (HC1.out.append (UpdCs.one1 ⟨true, nm, x⟩ RA RC HX0.out))
     go_roundw
     case rel => exact ⟨k + 1, _, HKL.out, by go_num, by rw [HT2.out, List.length_append]; exact HON.out, by rw [HT2.out]; exact HCN.out, HDN.out, HBN.out⟩
     case measure => have := HKL.out; simp [intOf]; omega
   ·obtain rfl : k = X.length := by omega
    rw [List.take_length] at HO1 HC1
    have q1 : ¬ (X.length : Int) < (X.length : Int) := by omega
    have HK2 : Hid (∀ V, Below B w1 V → V.cell? ⟨g3, 0, none⟩ = some sv2 ∧ V.cell? ⟨g3, 1, none⟩ = some (.slice GA Gs.length GC) ∧ V.cell? ⟨nb, no + i, none⟩ = some (.string nm)) := fun V hb => by
     have h := HKN.out V hb
     exact ⟨h.2.2.1, h.2.2.2.1, h.2.2.2.2.1⟩
    have HJ2 : Hid (∀ V, Below B w1 V → V.cell? ⟨g2, 0, none⟩ = some (.slice SA S.length SC) ∧ V.cell? ⟨g2, 1, none⟩ = some (.slice FA Fs.length FC) ∧ V.cell? ⟨nb, no + i, none⟩ = some (.string nm)) := fun V hb => by
     have h := HKN.out V hb
     exact ⟨h.1, h.2.1, h.2.2.2.2.1⟩
    obtain ⟨-, -, -, -, -, zg2, zg3, znb, -⟩ := HKN.out wk1 HBK1.out
    go_upto_region 12 with (fail)
    refine wp_region_held_drew (S := (fun V => V.cell? ⟨g3, 0, none⟩ = some sv2 ∧ V.cell? ⟨g3, 1, none⟩ = some (.slice GA Gs.length GC) ∧ V.cell? ⟨nb, no + i, none⟩ = some (.string nm))) (by kernel_rfl) (HK2.out wk1.drew HBK1.out.drew) (fun hHeld => ?_)
    refine takeOp (i := 0) (v := ?_) (some 55) rfl rfl (by kernel_rfl) (by kernel_rfl) (by kernel_rfl) (fun _ _ _ h => h) (Or.inl ⟨by rfl, ?_⟩) (by assumption) ?_
    rotate_left 1
    ·(intro w0 hSw; (try dsimp only at hSw); go_simp; try (with_reducible rfl))
    try simp only [Act.put, List.setIfInBounds_toArray, List.set_cons_succ, List.set_cons_zero]
    refine takeOp (i := 1) (v := ?_) (some 56) rfl rfl (by kernel_rfl) (by kernel_rfl) (by kernel_rfl) (fun _ _ _ h => h) (Or.inl ⟨by rfl, ?_⟩) (by assumption) ?_
    rotate_left 1
    ·(intro w0 hSw; (try dsimp only at hSw); go_simp; try (with_reducible rfl))
    try simp only [Act.put, List.setIfInBounds_toArray, List.set_cons_succ, List.set_cons_zero]
    refine takeOp (i := 2) (v := ?_) (some 57) rfl rfl (by kernel_rfl) (by kernel_rfl) (by kernel_rfl) (fun _ _ _ h => h) (Or.inl ⟨by rfl, ?_⟩) (by assumption) ?_
    rotate_left 1
    ·(intro w0 hSw; (try dsimp only at hSw); go_simp; try (with_reducible rfl))
    try simp only [Act.put, List.setIfInBounds_toArray, List.set_cons_succ, List.set_cons_zero]
    refine takeOp (i := 3) (v := ?_) (some 58) rfl rfl (by kernel_rfl) (by kernel_rfl) (by kernel_rfl) (fun _ _ _ h => h) (Or.inl ⟨by rfl, ?_⟩) (by assumption) ?_
    rotate_left 1
    ·(intro w0 hSw; (try dsimp only at hSw); go_simp; try (with_reducible rfl))
    try simp only [Act.put, List.setIfInBounds_toArray, List.set_cons_succ, List.set_cons_zero]
    refine takeOp (i := 4) (v := ?_) (some 59) rfl rfl (by kernel_rfl) (by kernel_rfl) (by kernel_rfl) (fun _ _ _ h => h) (Or.inl ⟨by rfl, ?_⟩) (by assumption) ?_
    rotate_left 1
    ·(intro w0 hSw; (try dsimp only at hSw); go_simp; try (with_reducible rfl))
    try simp only [Act.put, List.setIfInBounds_toArray, List.set_cons_succ, List.set_cons_zero]
    refine wpAnyH_ready (rs := [5]) (by kernel_rfl) (by simp) ?_
    refine AllReadyH.cons rfl (fun K hK => ?_) AllReadyH.nil
    go_simp
    refine (HRWG.out wk1.drew HBK1.out.drew).mono ?_
    rintro e wa2 ⟨OA2, OC2, hs2, rfl, hrc, hro, hba⟩
    have hba : Below wk1.heap.size wk1 wa2 := Below.undrew hba
    have HBA2 := Lib.hid (HBK1.out.trans (hba.mono (HKN.out wk1 HBK1.out).2.2.2.2.2.2.2.2))
    have HRC2 := Lib.hid hrc
    have HRO2 := Lib.hid hro
    have HOA2 := Lib.hid (own_keep HO1.out hba)
    clear hrc hro hba
    go_wp2_with fail
    refine hK.out _ _ (HK2.out wa2 HBA2.out) (fun hHeld => ?_)
    clear hK K
    try simp only [Act.put, List.setIfInBounds_toArray, List.set_cons_succ, List.set_cons_zero]
    refine takeOp (i := 6) (v := ?_) (some 10) rfl rfl (by kernel_rfl) (by kernel_rfl) (by kernel_rfl) (fun _ _ _ h => h) (Or.inl ⟨by rfl, ?_⟩) (by assumption) ?_
    rotate_left 1
    ·(intro w0 hSw; (try dsimp only at hSw); go_simp; try (with_reducible rfl))
    try simp only [Act.put, List.setIfInBounds_toArray, List.set_cons_succ, List.set_cons_zero]
    refine wpAnyH_done (by kernel_rfl) ?_ _
    clear zg2 zg3 znb
    go_wp2_with fail
    go_loopw [5, 11] (fun v c wx => ∃ (k : Nat) (cs : List Value), k ≤ Y.length ∧ c = .int .i64 k ∧ wx.ownsRow B 53 3 v (U ++ delU nm X Y ++ insU nm (Y.take k) X).length cs ∧ UpdCs w.heap.size w (U ++ delU nm X Y ++ insU nm (Y.take k) X) cs ∧ wx.ownsRow B 42 1 (.slice OA2 Y.length OC2) Y.length hs2 ∧ Below B w1 wx) (fun _ c _ => Y.length - (intOf c).toNat)
    case atStart => exact ⟨0, _, Nat.zero_le _, rfl, by rw [show insU nm (Y.take 0) X = [] from rfl, List.append_nil]; exact HOA2.out, by rw [show insU nm (Y.take 0) X = [] from rfl, List.append_nil]; exact HC1.out, HRO2.out, HBA2.out⟩
    case round =>
     obtain ⟨k, cs2, hk, rfl, hown, hcs, hold, hbk⟩ := hrel
     obtain ⟨wk2, hwk⟩ : ∃ wk, wk = wr := ⟨_, rfl⟩
     subst hwk
     obtain ⟨vk2, hvk⟩ : ∃ v, v = u5 := ⟨_, rfl⟩
     subst hvk
     have HO2 := Lib.hid hown
     have HC2 := Lib.hid hcs
     have HD2 := Lib.hid hold
     have HBK2 := Lib.hid hbk
     clear hown hcs hold hbk
     by_cases hkl : k < Y.length
     ·obtain ⟨RA, RC, y0, hx0⟩ := HRC2.out.at_ k hkl
      obtain ⟨ob, oo, hoa, hob, o0⟩ := own_at0 HD2.out y0
      subst hoa
      have HAT : Hid (∀ V : World, V.ownsRow B 42 1 (.slice (some ⟨ob, oo, none⟩) Y.length OC2) Y.length hs2 → V.cell? ⟨ob, oo + k, none⟩ = some (.slice RA Y[k].length RC)) := fun V h => by
       obtain ⟨b, o, e, -, hc⟩ := own_at0 h y0
       injection e with e
       injection e with e1 e2
       subst e1 e2
       exact hc
      have HTK := Lib.hid (insU_take (nm := nm) (Y := X) hkl)
      have HXL := Lib.hid (HGX.out _ (List.getElem_mem hkl))
      have HX0 := Lib.hid hx0
      have hxlen := HLF.out
      have HKL := Lib.hid hkl
      have HLD : Hid ((U ++ delU nm X Y ++ insU nm (Y.take k) X).length ≤ 500000) := by
       show _ ≤ _
       have h := insU_len (nm := nm) (X := Y.take k) (Y := X)
       have h2 := HLI.out
       have h3 := (delU_len (nm := nm) (X := X) (Y := Y))
       rw [List.length_take] at h
       simp only [List.length_append] at *
       omega
      clear y0 hx0
      generalize Y[k] = x at *
      have q0 : (0 : Int) ≤ (k : Int) := by omega
      have q1 : (k : Int) < (Y.length : Int) := by omega
      have hw2 : IntKind.i64.wrap ((k : Int) + 1) = ((k + 1 : Nat) : Int) := by rw [IntWalk.i64_in _ (by omega)]; omega
      obtain ⟨-, -, -, -, -, zg2, zg3, znb, hbz⟩ := HKN.out wk2 HBK2.out
      have HHH : Hid (∀ V, Below B w1 V → Calls Tryz.prog 65 #[.agg #[.slice SA S.length SC, .slice FA Fs.length FC], .string nm, .slice RA x.length RC] V fun e V' => e = .returned (.bool (decide (x ∈ X))) ∧ Ext V V') := fun V hb => HHF.out V hb RA RC x HX0.out HXL.out
      clear hkl
      go_upto_region 16 with (fail)
      refine wp_region_held_drew (S := (fun V => (V.cell? ⟨g2, 0, none⟩ = some (.slice SA S.length SC) ∧ V.cell? ⟨g2, 1, none⟩ = some (.slice FA Fs.length FC) ∧ V.cell? ⟨nb, no + i, none⟩ = some (.string nm)) ∧ V.cell? ⟨ob, oo + k, none⟩ = some (.slice RA x.length RC))) (by kernel_rfl) ⟨HJ2.out wk2.drew HBK2.out.drew, o0⟩ (fun hHeld => ?_)
      refine takeOp (i := 0) (v := ?_) (some 67) rfl rfl (by kernel_rfl) (by kernel_rfl) (by kernel_rfl) (fun _ _ _ h => h) (Or.inl ⟨by rfl, ?_⟩) (by assumption) ?_
      rotate_left 1
      ·(intro w0 hSw; (try dsimp only at hSw); go_simp; try (with_reducible rfl))
      try simp only [Act.put, List.setIfInBounds_toArray, List.set_cons_succ, List.set_cons_zero]
      refine takeOp (i := 1) (v := ?_) (some 68) rfl rfl (by kernel_rfl) (by kernel_rfl) (by kernel_rfl) (fun _ _ _ h => h) (Or.inl ⟨by rfl, ?_⟩) (by assumption) ?_
      rotate_left 1
      ·(intro w0 hSw; (try dsimp only at hSw); go_simp; try (with_reducible rfl))
      try simp only [Act.put, List.setIfInBounds_toArray, List.set_cons_succ, List.set_cons_zero]
      refine takeOp (i := 2) (v := ?_) (some 69) rfl rfl (by kernel_rfl) (by kernel_rfl) (by kernel_rfl) (fun _ _ _ h => h) (Or.inl ⟨by rfl, ?_⟩) (by assumption) ?_
      rotate_left 1
      ·(intro w0 hSw; (try dsimp only at hSw); go_simp; try (with_reducible rfl))
      try simp only [Act.put, List.setIfInBounds_toArray, List.set_cons_succ, List.set_cons_zero]
      refine takeOp (i := 3) (v := ?_) (some 70) rfl rfl (by kernel_rfl) (by kernel_rfl) (by kernel_rfl) (fun _ _ _ h => h) (Or.inl ⟨by rfl, ?_⟩) (by assumption) ?_
      rotate_left 1
      ·(intro w0 hSw; (try dsimp only at hSw); go_simp; try (with_reducible rfl))
      try simp only [Act.put, List.setIfInBounds_toArray, List.set_cons_succ, List.set_cons_zero]
      refine takeOp (i := 4) (v := ?_) (some 71) rfl rfl (by kernel_rfl) (by kernel_rfl) (by kernel_rfl) (fun _ _ _ h => h) (Or.inl ⟨by rfl, ?_⟩) (by assumption) ?_
      rotate_left 1
      ·(intro w0 hSw; (try dsimp only at hSw); go_simp; try (with_reducible rfl))
      try simp only [Act.put, List.setIfInBounds_toArray, List.set_cons_succ, List.set_cons_zero]
      refine takeOp (i := 5) (v := ?_) (some 72) rfl rfl (by kernel_rfl) (by kernel_rfl) (by kernel_rfl) (fun _ _ _ h => h) (Or.inl ⟨by rfl, ?_⟩) (by assumption) ?_
      rotate_left 1
      ·(intro w0 hSw; (try dsimp only at hSw); go_simp; try (with_reducible rfl))
      try simp only [Act.put, List.setIfInBounds_toArray, List.set_cons_succ, List.set_cons_zero]
      refine takeOp (i := 6) (v := ?_) (some 73) rfl rfl (by kernel_rfl) (by kernel_rfl) (by kernel_rfl) (fun _ _ _ h => h) (Or.inl ⟨by rfl, ?_⟩) (by assumption) ?_
      rotate_left 1
      ·(intro w0 hSw; (try dsimp only at hSw); go_simp; try (with_reducible rfl))
      try simp only [Act.put, List.setIfInBounds_toArray, List.set_cons_succ, List.set_cons_zero]
      refine takeOp (i := 7) (v := ?_) (some 74) rfl rfl (by kernel_rfl) (by kernel_rfl) (by kernel_rfl) (fun _ _ _ h => h) (Or.inl ⟨by rfl, ?_⟩) (by assumption) ?_
      rotate_left 1
      ·(intro w0 hSw; (try dsimp only at hSw); go_simp; try (with_reducible rfl))
      try simp only [Act.put, List.setIfInBounds_toArray, List.set_cons_succ, List.set_cons_zero]
      refine takeOp (i := 8) (v := ?_) (some 75) rfl rfl (by kernel_rfl) (by kernel_rfl) (by kernel_rfl) (fun _ _ _ h => h) (Or.inl ⟨by rfl, ?_⟩) (by assumption) ?_
      rotate_left 1
      ·(intro w0 hSw; (try dsimp only at hSw); go_simp; try (with_reducible rfl))
      try simp only [Act.put, List.setIfInBounds_toArray, List.set_cons_succ, List.set_cons_zero]
      refine wpAnyH_ready (rs := [9]) (by kernel_rfl) (by simp) ?_
      refine AllReadyH.cons rfl (fun K hK => ?_) AllReadyH.nil
      go_simp
      refine (HHH.out wk2.drew HBK2.out.drew).mono ?_
      rintro e wh ⟨rfl, hxh⟩
      have hxh : Ext wk2 wh := (Ext.refl wk2).drew.trans hxh
      have HXH := Lib.hid hxh
      have HBH := Lib.hid (HBK2.out.trans (hxh.below.mono hbz))
      have HKK : Hid ((wh.cell? ⟨g2, 0, none⟩ = some (.slice SA S.length SC) ∧ wh.cell? ⟨g2, 1, none⟩ = some (.slice FA Fs.length FC) ∧ wh.cell? ⟨nb, no + i, none⟩ = some (.string nm)) ∧ wh.cell? ⟨ob, oo + k, none⟩ = some (.slice RA x.length RC)) := ⟨HJ2.out wh HBH.out, (hxh.cell hob).trans o0⟩
      clear hxh
      go_wp2_with fail
      refine hK.out _ _ HKK.out (fun hHeld => ?_)
      clear hK K
      try simp only [Act.put, List.setIfInBounds_toArray, List.set_cons_succ, List.set_cons_zero]
      refine takeOp (i := 10) (v := ?_) (some 77) rfl rfl (by kernel_rfl) (by kernel_rfl) (by kernel_rfl) (fun _ _ _ h => h) (Or.inl ⟨by rfl, ?_⟩) (by assumption) ?_
      rotate_left 1
      ·(intro w0 hSw; (try dsimp only at hSw); go_simp; try (with_reducible rfl))
      try simp only [Act.put, List.setIfInBounds_toArray, List.set_cons_succ, List.set_cons_zero]
      refine wpAnyH_done (by kernel_rfl) ?_ _
      have HOH := Lib.hid (own_keep HO2.out HXH.out.below)
      have HDH := Lib.hid (own_keep HD2.out HXH.out.below)
      clear zg2 zg3 znb hbz HHH o0 hob
      by_cases hxy : x ∈ X
      ·have hd : decide (x ∈ X) = true := decide_eq_true hxy
       have HT2 : Hid (insU nm (Y.take (k + 1)) X = insU nm (Y.take k) X) := by show _ = _; rw [HTK.out, if_pos hxy, List.append_nil]
       rw [hd]
       clear hxy hd
       go_wp2_with fail
       go_roundw
       case rel => exact ⟨k + 1, cs2, HKL.out, by go_num, by rw [HT2.out]; exact HOH.out, by rw [HT2.out]; exact HC2.out, HDH.out, HBH.out⟩
       case measure => have := HKL.out; simp [intOf]; omega
      ·have hd : decide (x ∈ X) = false := decide_eq_false hxy
       have HT2 : Hid (U ++ delU nm X Y ++ insU nm (Y.take (k + 1)) X = (U ++ delU nm X Y ++ insU nm (Y.take k) X) ++ [⟨false, nm, x⟩]) := by show _ = _; rw [HTK.out, if_neg hxy]; simp only [List.append_assoc]
       rw [hd]
       clear hxy hd
       obtain ⟨-, -, -, -, n0, -, -, znb, hbz⟩ := HKN.out wh HBH.out
       have o0 := HAT.out wh HDH.out
       have hob2 : ob < wh.heap.size := own_lt HDH.out ob rfl
       go_upto_region 17 with (fail)
       refine wp_region_held_drew (S := (fun V => V.cell? ⟨nb, no + i, none⟩ = some (.string nm) ∧ V.cell? ⟨ob, oo + k, none⟩ = some (.slice RA x.length RC))) (by kernel_rfl) ⟨n0, o0⟩ (fun hHeld => ?_)
       refine takeOp (i := 0) (v := ?_) (some 78) rfl rfl (by kernel_rfl) (by kernel_rfl) (by kernel_rfl) (fun _ _ _ h => h) (Or.inl ⟨by rfl, ?_⟩) (by assumption) ?_
       rotate_left 1
       ·(intro w0 hSw; (try dsimp only at hSw); go_simp; try (with_reducible rfl))
       try simp only [Act.put, List.setIfInBounds_toArray, List.set_cons_succ, List.set_cons_zero]
       refine takeOp (i := 1) (v := ?_) (some 79) rfl rfl (by kernel_rfl) (by kernel_rfl) (by kernel_rfl) (fun _ _ _ h => h) (Or.inl ⟨by rfl, ?_⟩) (by assumption) ?_
       rotate_left 1
       ·(intro w0 hSw; (try dsimp only at hSw); go_simp; try (with_reducible rfl))
       try simp only [Act.put, List.setIfInBounds_toArray, List.set_cons_succ, List.set_cons_zero]
       refine takeOp (i := 2) (v := ?_) (some 80) rfl rfl (by kernel_rfl) (by kernel_rfl) (by kernel_rfl) (fun _ _ _ h => h) (Or.inl ⟨by rfl, ?_⟩) (by assumption) ?_
       rotate_left 1
       ·(intro w0 hSw; (try dsimp only at hSw); go_simp; try (with_reducible rfl))
       try simp only [Act.put, List.setIfInBounds_toArray, List.set_cons_succ, List.set_cons_zero]
       refine takeOp (i := 3) (v := ?_) (some 81) rfl rfl (by kernel_rfl) (by kernel_rfl) (by kernel_rfl) (fun _ _ _ h => h) (Or.inl ⟨by rfl, ?_⟩) (by assumption) ?_
       rotate_left 1
       ·(intro w0 hSw; (try dsimp only at hSw); go_simp; try (with_reducible rfl))
       try simp only [Act.put, List.setIfInBounds_toArray, List.set_cons_succ, List.set_cons_zero]
       refine takeOp (i := 4) (v := ?_) (some 82) rfl rfl (by kernel_rfl) (by kernel_rfl) (by kernel_rfl) (fun _ _ _ h => h) (Or.inl ⟨by rfl, ?_⟩) (by assumption) ?_
       rotate_left 1
       ·(intro w0 hSw; (try dsimp only at hSw); go_simp; try (with_reducible rfl))
       try simp only [Act.put, List.setIfInBounds_toArray, List.set_cons_succ, List.set_cons_zero]
       refine takeOp (i := 5) (v := ?_) (some 83) rfl rfl (by kernel_rfl) (by kernel_rfl) (by kernel_rfl) (fun _ _ _ h => h) (Or.inl ⟨by rfl, ?_⟩) (by assumption) ?_
       rotate_left 1
       ·(intro w0 hSw; (try dsimp only at hSw); go_simp; try (with_reducible rfl))
       try simp only [Act.put, List.setIfInBounds_toArray, List.set_cons_succ, List.set_cons_zero]
       refine takeOp (i := 6) (v := ?_) (some 84) rfl rfl (by kernel_rfl) (by kernel_rfl) (by kernel_rfl) (fun _ _ _ h => h) (Or.inl ⟨by rfl, ?_⟩) (by assumption) ?_
       rotate_left 1
       ·(intro w0 hSw; (try dsimp only at hSw); go_simp; try (with_reducible rfl))
       try simp only [Act.put, List.setIfInBounds_toArray, List.set_cons_succ, List.set_cons_zero]
       refine takeOp (i := 7) (v := ?_) (some 85) rfl rfl (by kernel_rfl) (by kernel_rfl) (by kernel_rfl) (fun _ _ _ h => h) (Or.inl ⟨by rfl, ?_⟩) (by assumption) ?_
       rotate_left 1
       ·(intro w0 hSw; (try dsimp only at hSw); go_simp; try (with_reducible rfl))
       try simp only [Act.put, List.setIfInBounds_toArray, List.set_cons_succ, List.set_cons_zero]
       refine takeOp (i := 8) (v := ?_) (some 86) rfl rfl (by kernel_rfl) (by kernel_rfl) (by kernel_rfl) (fun _ _ _ h => h) (Or.inl ⟨by rfl, ?_⟩) (by assumption) ?_
       rotate_left 1
       ·(intro w0 hSw; (try dsimp only at hSw); go_simp; try (with_reducible rfl))
       try simp only [Act.put, List.setIfInBounds_toArray, List.set_cons_succ, List.set_cons_zero]
       refine takeOp (i := 9) (v := ?_) (some 87) rfl rfl (by kernel_rfl) (by kernel_rfl) (by kernel_rfl) (fun _ _ _ h => h) (Or.inl ⟨by rfl, ?_⟩) (by assumption) ?_
       rotate_left 1
       ·(intro w0 hSw; (try dsimp only at hSw); go_simp; try (with_reducible rfl))
       try simp only [Act.put, List.setIfInBounds_toArray, List.set_cons_succ, List.set_cons_zero]
       refine wpAnyH_ready (rs := [10]) (by kernel_rfl) (by simp) ?_
       refine AllReadyH.cons rfl (fun K hK => ?_) AllReadyH.nil
       go_simp
       obtain ⟨wb, hV⟩ : ∃ V', V' = (wh.alloc (.cells #[.bool false, .string nm, .slice RA x.length RC] 53)).drew := ⟨_, rfl⟩
       rw [← hV]
       have hxb : Ext wh wb := by rw [hV]; exact ((Ext.refl wh).alloc _).drew
       obtain ⟨eb, heb⟩ : ∃ g, g = wh.heap.size := ⟨_, rfl⟩
       have HEB : Hid (Row wb eb 53 [.bool false, .string nm, .slice RA x.length RC]) := by show Row _ _ _ _; rw [hV, heb]; exact (Row.new wh 53 [.bool false, .string nm, .slice RA x.length RC]).drew
       have HBB := Lib.hid (HBH.out.trans (hxb.below.mono hbz))
       have HOB := Lib.hid (own_keep HOH.out hxb.below)
       have HDB := Lib.hid (own_keep HDH.out hxb.below)
       have HKA : Hid (wb.cell? ⟨nb, no + i, none⟩ = some (.string nm) ∧ wb.cell? ⟨ob, oo + k, none⟩ = some (.slice RA x.length RC)) := ⟨(hxb.cell znb).trans n0, HAT.out wb HDB.out⟩
       have hbzb : B ≤ wb.heap.size := Nat.le_trans hbz hxb.size
       try rw [show wh.drew.heap.size = eb from heb.symm]
       try rw [← heb]
       clear hV hxb heb
       refine hK.out _ _ HKA.out (fun hHeld => ?_)
       clear hK K
       try simp only [Act.put, List.setIfInBounds_toArray, List.set_cons_succ, List.set_cons_zero]
       refine wpAnyH_ready (rs := [11]) (by kernel_rfl) (by simp) ?_
       refine AllReadyH.cons rfl (fun K hK => ?_) AllReadyH.nil
       refine stepXUpd rfl (.tmp 78) (.tmp 88) rfl B vk2 (U ++ delU nm X Y ++ insU nm (Y.take k) X).length cs2 (by simp [Act.eval]) HOB.out (some ⟨eb, 0, none⟩) 1 1 [.bool false, .string nm, .slice RA x.length RC] (by simp [Act.eval]) rfl HEB.out.sl (fun u hu => by simp at hu; rcases hu with rfl | rfl | rfl <;> rfl) (by have := HLD.out; omega) hbzb ?_
       intro vn wc k1 k2 k3
       have HON := Lib.hid k1
       have HDN := Lib.hid (own_grown HDB.out k2 fun q hq e => own_parts HDB.out HOB.out (by decide) q hq e.symm)
       have HBN : Hid (Below B w1 wc) := HBB.out.grown k2 hbzb fun q hq => own_base HOB.out hq
       have HKC : Hid (wc.cell? ⟨nb, no + i, none⟩ = some (.string nm) ∧ wc.cell? ⟨ob, oo + k, none⟩ = some (.slice RA x.length RC)) := ⟨(HKN.out wc HBN.out).2.2.2.2.1, HAT.out wc HDN.out⟩
       clear k1 k2 k3
       refine hK.out _ _ HKC.out (fun hHeld => ?_)
       clear hK K
       try simp only [Act.put]
       try simp only [List.setIfInBounds_toArray]
       try simp only [List.set_cons_succ]
       try simp only [List.set_cons_zero]
       refine takeOp (i := 12) (v := ?_) (some 5) rfl rfl (by kernel_rfl) (by kernel_rfl) (by kernel_rfl) (fun _ _ _ h => h) (Or.inl ⟨by rfl, ?_⟩) (by assumption) ?_
       rotate_left 1
       ·(intro w0 hSw; (try dsimp only at hSw); go_simp; try (with_reducible rfl))
       try simp only [Act.put]
       try simp only [List.setIfInBounds_toArray]
       try simp only [List.set_cons_succ]
       try simp only [List.set_cons_zero]
       refine wpAnyH_done (by kernel_rfl) ?_ _
       go_wp2_with fail
       have HCN := Lib.hid (HC2.out.append (UpdCs.one1 ⟨false, nm, x⟩ RA RC HX0.out))
       go_roundw
       case rel => exact ⟨k + 1, _, HKL.out, by go_num, by rw [HT2.out, List.length_append]; exact HON.out, by rw [HT2.out]; exact HCN.out, HDN.out, HBN.out⟩
       case measure => have := HKL.out; simp [intOf]; omega
     ·obtain rfl : k = Y.length := by omega
      rw [List.take_length] at HO2 HC2
      have q1 : ¬ (Y.length : Int) < (Y.length : Int) := by omega
      go_wp2_with fail
      go_roundw
      case rel => exact ⟨i + 1, cs2, HIL.out, by go_num, by rw [HSTEP2.out]; exact HO2.out, by rw [HSTEP2.out]; exact HC2.out, HBK2.out⟩
      case measure => have := HIL.out; simp [intOf]; omega
end
section
open Go.RowKit Go.Sort Go.ChangeMaps Go.WideShapes

def DbN (w : World) (mb : Option Nat) (n : Nat) : Prop := (mb = none ∧ n = 0) ∨ ∃ (b : Nat) (P : Nat → Prop) (S : Sch) (F : Cont), mb = some b ∧ S.length = n ∧ DbM P S w (.map (some b)) F
theorem DbN.up {w w' : World} {mb : Option Nat} {n : Nat} (h : DbN w mb n) (hb : Below w.heap.size w w') : DbN w' mb n := by
 rcases h with h | ⟨b, P, S, F, h1, h2, h3⟩
 ·exact .inl h
 ·exact .inr ⟨b, P, S, F, h1, h2, h3.up hb⟩
theorem DbN.len {w : World} {mb : Option Nat} {n : Nat} (h : DbN w mb n) (ty : TypeId) : (Builtin.len_ #[26] ty #[.map mb]).run Tryz.prog w = .ok (.int .i64 (n : Nat)) w := by
 rcases h with ⟨rfl, rfl⟩ | ⟨b, P, S, F, rfl, h2, h3⟩
 ·simp [Builtin.len_, run_underlying Tryz.underlying26]
  rfl
 ·obtain ⟨b', D, e, -, hown, hent⟩ := h3.ents
  injection e with e
  injection e with e
  subst e
  have h := hown.len Tryz.underlying26 ty
  rw [hent.1, h2] at h
  exact h
set_option maxHeartbeats 2000000 in
theorem ctSameFunc_bad {mb mb' : Option Nat} {n n' : Nat} (f : Value) (w : World) (hd : DbN w mb n) (hd' : DbN w mb' n') (hne : n ≠ n') :
  Calls Tryz.prog 51 #[.map mb, .map mb', f] w fun e w' => e = .returned (.bool false) ∧ Below w.heap.size w w' := by
 have hl1 := fun ty => hd.len ty
 have hl2 := fun ty => hd'.len ty
 have hq : ((n : Int) != (n' : Int)) = true := by rw [bne_iff_ne]; omega
 clear hd hd' hne
 go_enter Tryz.func51, Tryz.ntmps51
 go_wp2_with fail
 go_ret
 exact ⟨rfl, Below.refl _ _⟩
set_option maxHeartbeats 2000000 in
theorem ctSameSchemas_bad {mb mb' : Option Nat} {n n' : Nat} (w : World) (hd : DbN w mb n) (hd' : DbN w mb' n') (hne : n ≠ n') :
  Calls Tryz.prog 69 #[.agg #[.map mb], .agg #[.map mb']] w fun e w' => e = .returned (.bool false) ∧ Below w.heap.size w w' := by
 have HC := Lib.hid (fun V (hb : Below w.heap.size w V) f => ctSameFunc_bad f V (hd.up hb) (hd'.up hb) hne)
 have hx := (((Ext.refl w).alloc (.cells #[.map mb] 28)).alloc (.cells #[.map mb'] 28)).below
 have HX := Lib.hid hx
 clear hd hd' hx hne
 go_enter Tryz.func69, Tryz.ntmps69
 go_wp2_with fail
 refine (HC.out _ HX.out _).mono ?_
 rintro e w1 ⟨rfl, hb⟩
 have HB := Lib.hid (Below.then HX.out hb HX.out.size)
 clear hb HC
 go_wp2_with fail
 go_ret
 exact ⟨rfl, HB.out⟩
set_option maxHeartbeats 2000000 in
theorem ctDiff_bad {mb mb' : Option Nat} {n n' : Nat} (w : World) (hd : DbN w mb n) (hd' : DbN w mb' n') (hne : n ≠ n') :
  Calls Tryz.prog 36 #[.agg #[.map mb], .agg #[.map mb']] w fun e w' => e = .returned (.tuple #[.slice none 0 0, .int .i64 28]) ∧ Below w.heap.size w w' := by
 have HC := Lib.hid (fun V (hb : Below w.heap.size w V) => ctSameSchemas_bad V (hd.up hb) (hd'.up hb) hne)
 have hx := (((Ext.refl w).alloc (.cells #[.map mb] 28)).alloc (.cells #[.map mb'] 28)).below
 have HX := Lib.hid hx
 clear hd hd' hx hne
 go_enter Tryz.func36, Tryz.ntmps36
 go_wp2_with fail
 refine (HC.out _ HX.out).mono ?_
 rintro e w1 ⟨rfl, hb⟩
 have HB := Lib.hid (Below.then HX.out hb HX.out.size)
 clear hb HC
 go_wp2_with fail
 exact bodyPost_ret (v := .tuple #[.slice none 0 0, .int .i64 28]) (by simp [results, Tryz.results36, go_sem]) rfl ⟨rfl, HB.out⟩
end
section
open Go.RowKit Go.Sort Go.ChangeMaps Go.WideShapes

theorem SchsM.cells {B : Nat} {w : World} {A : Option Addr} {S : Sch} (h : SchsM B w A S) (hB : B ≤ w.heap.size) : ∃ cs, SchCs (fun b => b < B) w S cs ∧ Sl B w A cs := by
 by_cases hne : S = []
 ·subst hne
  exact ⟨[], SchCs.nil, fun h => absurd rfl h⟩
 obtain ⟨b, o, rfl, hb, hc⟩ := h hne
 refine ⟨(List.range (S.length * 2)).map fun j => (w.cell? ⟨b, o + j, none⟩).getD (.bool false), ⟨by simp, fun u hu => ?_, fun i hi => ?_⟩, fun _ => ⟨b, o, rfl, hb, fun j u hu => ?_⟩⟩
 ·obtain ⟨j, hj, rfl⟩ := List.mem_map.1 hu
  have hj := List.mem_range.1 hj
  obtain ⟨KA, KC, c0, c1, -⟩ := hc (j / 2) (by omega)
  have hr : j % 2 = 0 ∨ j % 2 = 1 := by omega
  rcases hr with hr | hr
  ·rw [show o + j = o + j / 2 * 2 by omega, c0]; rfl
  ·rw [show o + j = o + j / 2 * 2 + 1 by omega, c1]; rfl
 ·obtain ⟨KA, KC, c0, c1, c2⟩ := hc i hi
  refine ⟨KA, KC, ?_, ?_, fun hk => ?_⟩
  ·rw [List.getElem?_map, List.getElem?_range (by omega), Option.map_some, c0]; rfl
  ·rw [List.getElem?_map, List.getElem?_range (by omega), Option.map_some, show o + (i * 2 + 1) = o + i * 2 + 1 by omega, c1]; rfl
  ·obtain ⟨b', o', e, h1, h2⟩ := c2 (fun h0 => hk (List.map_eq_nil_iff.1 h0))
   exact ⟨b', o', e, Nat.lt_of_lt_of_le h1 hB, h1, h2⟩
 ·rw [List.getElem?_map] at hu
  have hj : j < S.length * 2 := by
   rcases Nat.lt_or_ge j (S.length * 2) with h | h
   ·exact h
   ·rw [List.getElem?_eq_none (by simpa using h)] at hu; cases hu
  rw [List.getElem?_range hj] at hu
  simp only [Option.map_some, Option.some.injEq] at hu
  subst hu
  obtain ⟨KA, KC, c0, c1, -⟩ := hc (j / 2) (by omega)
  have hr : j % 2 = 0 ∨ j % 2 = 1 := by omega
  rcases hr with hr | hr
  ·rw [show o + j = o + j / 2 * 2 by omega, c0]; rfl
  ·rw [show o + j = o + j / 2 * 2 + 1 by omega, c1]; rfl
theorem SchCs.snocZ {P : Nat → Prop} {w : World} {S : Sch} {cs : List Value} (h : SchCs P w S cs) (nm : ByteArray) : SchCs P w (S ++ [(nm, [])]) (cs ++ [.string nm, .slice none 0 0]) := by
 refine ⟨by simp [h.len]; omega, fun u hu => ?_, fun i hi => ?_⟩
 ·rcases List.mem_append.1 hu with hu | hu
  ·exact h.one u hu
  ·simp at hu
   rcases hu with rfl | rfl <;> rfl
 ·have hl := h.len
  by_cases hlt : i < S.length
  ·obtain ⟨KA, KC, a, b, c⟩ := h.at_ i hlt
   refine ⟨KA, KC, ?_, ?_, ?_⟩
   ·rw [List.getElem?_append_left (by omega), List.getElem_append_left hlt]; exact a
   ·rw [List.getElem?_append_left (by omega), List.getElem_append_left hlt]; exact b
   ·rw [List.getElem_append_left hlt]; exact c
  ·have e : i = S.length := by simp at hi; omega
   subst e
   refine ⟨none, 0, ?_, ?_, ?_⟩
   ·rw [List.getElem?_append_right (by omega), show S.length * 2 - cs.length = 0 by omega]; simp
   ·rw [List.getElem?_append_right (by omega), show S.length * 2 + 1 - cs.length = 1 by omega]; simp
   ·simp; exact fun h => absurd rfl h
theorem sameC_diff {S : Sch} {F G : Cont} (hF : ∀ nm, RL.SS (F nm)) (hG : ∀ nm, RL.SS (G nm)) {ns : List ByteArray} (h : NamesOf S ns) : sameC S F G = decide ((diffF ns F G).length = 0) := by
 have key : ∀ nm, diff1 nm (F nm) (G nm) = [] ↔ F nm = G nm := fun nm => by
  constructor
  ·intro e
   unfold diff1 at e
   obtain ⟨e1, e2⟩ := List.append_eq_nil_iff.1 e
   have e1 := List.map_eq_nil_iff.1 e1
   have e2 := List.map_eq_nil_iff.1 e2
   refine RL.SS.ext (hF nm) (hG nm) fun x => ⟨fun hx => ?_, fun hx => ?_⟩
   ·by_cases hy : x ∈ G nm
    ·exact hy
    ·have : x ∈ minF (F nm) (G nm) := List.mem_filter.2 ⟨hx, by simp [hy]⟩
     rw [e1] at this; cases this
   ·by_cases hy : x ∈ F nm
    ·exact hy
    ·have : x ∈ minF (G nm) (F nm) := List.mem_filter.2 ⟨hx, by simp [hy]⟩
     rw [e2] at this; cases this
  ·intro e
   unfold diff1 minF
   rw [e]
   simp
 have h2 : (diffF ns F G).length = 0 ↔ ∀ p ∈ S, F p.1 = G p.1 := by
  rw [List.length_eq_zero_iff]
  unfold diffF
  rw [List.flatMap_eq_nil_iff]
  constructor
  ·intro hh p hp
   exact (key p.1).1 (hh p.1 (h.1.mem_iff.2 (List.mem_map.2 ⟨p, hp, rfl⟩)))
  ·intro hh nm hnm
   obtain ⟨p, hp, rfl⟩ := List.mem_map.1 (h.1.mem_iff.1 hnm)
   exact (key p.1).2 (hh p hp)
 unfold sameC
 by_cases hh : ∀ p ∈ S, F p.1 = G p.1
 ·rw [decide_eq_true (h2.2 hh), List.all_eq_true]
  exact fun p hp => decide_eq_true (hh p hp)
 ·rw [decide_eq_false (fun h3 => hh (h2.1 h3)), List.all_eq_false]
  obtain ⟨p, hp⟩ := Classical.not_forall.1 hh
  obtain ⟨hp1, hp2⟩ := Classical.not_imp.1 hp
  exact ⟨p, hp1, by simp [hp2]⟩
theorem diff_ok {F G : Cont} {Q : Upd → Prop} {ns : List ByteArray} (h : ∀ nm ∈ ns, ∀ d, ∀ x, x ∈ F nm ∨ x ∈ G nm → Q ⟨d, nm, x⟩) : ∀ u ∈ diffF ns F G, Q u := fun u hu => by
 unfold diffF at hu
 obtain ⟨nm, hnm, hu⟩ := List.mem_flatMap.1 hu
 unfold diff1 at hu
 rcases List.mem_append.1 hu with hu | hu
 ·obtain ⟨x, hx, rfl⟩ := List.mem_map.1 hu
  exact h nm hnm _ _ (.inl (List.mem_filter.1 hx).1)
 ·obtain ⟨x, hx, rfl⟩ := List.mem_map.1 hu
  exact h nm hnm _ _ (.inr (List.mem_filter.1 hx).1)
def zz9 : ByteArray := ⟨#[122, 122, 95, 57]⟩

set_option maxHeartbeats 16000000 in
theorem l08Diffs_any (SA : Option Addr) (SC : Nat) (S : Sch) (A : Option Addr) (C : Nat) (us : List Upd) (A2 : Option Addr) (C2 : Nat) (vs : List Upd) (w : World) (hS : SchsM w.heap.size w SA S) (hSo : SchsOk S) (_hSl : S.length ≤ 9223372036854775807)
  (hU : UpdsM w.heap.size w A us) (hUo : ∀ u ∈ us, u.rel.size ≤ 9223372036854775807 ∧ u.row.length ≤ 9223372036854775807 ∧ ∀ v ∈ u.row, v.str.size ≤ 9223372036854775807) (hUl : us.length ≤ C) (hUc : C ≤ 9223372036854775807)
  (hV : UpdsM w.heap.size w A2 vs) (hVo : ∀ u ∈ vs, u.rel.size ≤ 9223372036854775807 ∧ u.row.length ≤ 9223372036854775807 ∧ ∀ v ∈ u.row, v.str.size ≤ 9223372036854775807) (hVl : vs.length ≤ C2) (hVc : C2 ≤ 9223372036854775807) (hT : Tabs w) :
  Calls Tryz.prog 9 #[.slice SA S.length SC, .slice A us.length C, .slice A2 vs.length C2] w fun e w' => e = .returned (.bool true) ∧ Below w.heap.size w w' := by
 have HAW := Lib.hid (l08awake_any w hT)
 have HFW := Lib.hid (fun (w1 : World) (hb : Below w.heap.size w w1) => l08Few_any SA SC S.length A C us w1 (hU.up hb) (by omega) fun u hu => ⟨(hUo u hu).1, (hUo u hu).2.1⟩)
 have HFV := Lib.hid (fun (w1 : World) (hb : Below w.heap.size w w1) => l08Few_any SA SC S.length A2 C2 vs w1 (hV.up hb) (by omega) fun u hu => ⟨(hVo u hu).1, (hVo u hu).2.1⟩)
 have HS := Lib.hid hS
 have HSO := Lib.hid hSo
 have HU := Lib.hid hU
 have HUO := Lib.hid hUo
 have HV := Lib.hid hV
 have HVO := Lib.hid hVo
 clear hS hSo hU hUo hV hVo hT _hSl
 go_enter Tryz.func9, Tryz.ntmps9
 go_wp2_with fail
 refine HAW.out.mono ?_
 rintro e w1 ⟨rfl, hb1⟩
 have HB1 := Lib.hid hb1
 clear hb1 HAW
 go_wp2_with fail
 refine (HFW.out w1 HB1.out).mono ?_
 rintro e w2 ⟨rfl, hx2⟩
 have HB2 := Lib.hid (HB1.out.trans (hx2.below.mono HB1.out.size))
 clear hx2
 cases hfew : (decide (S.length ≤ 20) && fewB us) with
 | false =>
  clear hfew
  go_wp2_with fail
  go_ret
  exact ⟨rfl, HB2.out⟩
 | true =>
 rw [Bool.and_eq_true, decide_eq_true_eq, fewB_iff] at hfew
 obtain ⟨hs20, hu60, hfit⟩ := hfew
 have HFIT := Lib.hid hfit
 clear hfit HB1 HFW
 go_wp2_with fail
 refine (HFV.out w2 HB2.out).mono ?_
 rintro e w2' ⟨rfl, hx2⟩
 have HB2' := Lib.hid (HB2.out.trans (hx2.below.mono HB2.out.size))
 clear hx2 HB2
 cases hfev : (decide (S.length ≤ 20) && fewB vs) with
 | false =>
  clear hfev hs20 hu60
  go_wp2_with fail
  go_ret
  exact ⟨rfl, HB2'.out⟩
 | true =>
 rw [Bool.and_eq_true, decide_eq_true_eq, fewB_iff] at hfev
 obtain ⟨-, hv60, hfiv⟩ := hfev
 have HFIV := Lib.hid hfiv
 have HL : Hid (S.length ≤ 20 ∧ us.length ≤ 60 ∧ vs.length ≤ 60) := ⟨hs20, hu60, hv60⟩
 have HUO2 : Hid (∀ u ∈ us, UpdOk u) := fun u hu => ⟨(HUO.out u hu).1, by have := (HFIT.out u hu).1; omega, (HUO.out u hu).2.2⟩
 have HVO2 : Hid (∀ u ∈ vs, UpdOk u) := fun u hu => ⟨(HVO.out u hu).1, by have := (HFIV.out u hu).1; omega, (HVO.out u hu).2.2⟩
 have HMD := Lib.hid (l08made_any SA SC S A C us w2' (HS.out.up HB2'.out) HSO.out (by omega) (HU.out.up HB2'.out) HUO2.out (by omega) hUl)
 have HME := Lib.hid (fun (V : World) (hb : Below w.heap.size w V) => l08made_any SA SC S A2 C2 vs V (HS.out.up hb) HSO.out (by have := HL.out; omega) (HV.out.up hb) HVO2.out (by have := HL.out; omega) hVl)
 clear hfiv hs20 hu60 hv60 HFV
 go_wp2_with fail
 refine HMD.out.mono ?_
 rintro e w3 ⟨hbad, hok, hb3⟩
 have HB3 := Lib.hid (HB2'.out.trans (hb3.mono HB2'.out.size))
 by_cases he : errS S = 0
 rotate_left
 ·obtain rfl := hbad he
  obtain ⟨W4, hW4⟩ : ∃ W, W = (w3.alloc (.cells #[.map none] 28)).alloc (.cells #[.slice SA S.length SC, .slice none 0 0] 31) := ⟨_, rfl⟩
  have HB4 : Hid (Below w.heap.size w W4) := by show Below _ _ _; rw [hW4]; exact HB3.out.trans ((((Ext.refl w3).alloc _).alloc _).below.mono HB3.out.size)
  have HE := Lib.hid he
  clear hbad hok hb3 he HMD
  go_upto_region 6 with (fail)
  rw [← hW4]
  clear hW4
  go_wp2_with fail
  refine (HME.out W4 HB4.out).mono ?_
  rintro e w5 ⟨hbad, -, hb5⟩
  obtain rfl := hbad HE.out
  have HB5 := Lib.hid (HB4.out.trans (hb5.mono HB4.out.size))
  have HB6 : Hid (Below w.heap.size w ((w5.alloc (.cells #[.map none] 28)).alloc (.cells #[.slice SA S.length SC, .slice none 0 0] 31))) := HB5.out.trans ((((Ext.refl w5).alloc _).alloc _).below.mono HB5.out.size)
  clear hbad hb5 HME
  go_wp2_with fail
  go_ret
  exact ⟨rfl, HB6.out⟩
 obtain ⟨bd, FA, FC, cs, rfl, hdb, hfc, hof⟩ := hok he
 have HND : Hid (S.map Prod.fst).Nodup := (errS_mem he).2.1
 have HMEM := Lib.hid (errS_mem he).2.2
 have HL16 : Hid (S.length ≤ 16) := (errS_mem he).1
 have HE := Lib.hid he
 have hrel := (made_rel S us (by have := HL.out; omega))
 have hrelG := (made_rel S vs (by have := HL.out; omega))
 have hrows := made_rows S 20 us (fun u hu => (HFIT.out u hu).1)
 have hrowsG := made_rows S 20 vs (fun u hu => (HFIV.out u hu).1)
 have hvals := made_vals S (fun v => v.str.size ≤ 9223372036854775807) us (fun u hu => (HUO.out u hu).2.2)
 have hvalsG := made_vals S (fun v => v.str.size ≤ 9223372036854775807) vs (fun u hu => (HVO.out u hu).2.2)
 have hcok := made_contOk S us
 have hcokG := made_contOk S vs
 obtain ⟨F, hF⟩ : ∃ F, F = (madeF S us).1 := ⟨_, rfl⟩
 obtain ⟨Fs, hFs⟩ : ∃ F, F = (madeF S us).2 := ⟨_, rfl⟩
 obtain ⟨G, hG⟩ : ∃ F, F = (madeF S vs).1 := ⟨_, rfl⟩
 obtain ⟨Gs, hGs⟩ : ∃ F, F = (madeF S vs).2 := ⟨_, rfl⟩
 rw [← hF, ← hFs] at hrel
 rw [← hG, ← hGs] at hrelG
 rw [← hFs] at hfc hof hrows hvals ⊢
 rw [← hGs] at hrowsG hvalsG
 rw [← hF] at hdb hcok
 rw [← hG] at hcokG
 have HREL : Hid (RelF F Fs) := hrel.1
 have HRELG : Hid (RelF G Gs) := hrelG.1
 have HFL : Hid (Fs.length ≤ 60 ∧ Gs.length ≤ 60) := ⟨Nat.le_trans hrel.2 HL.out.2.1, Nat.le_trans hrelG.2 HL.out.2.2⟩
 have HFR : Hid (∀ f ∈ Fs, f.2.length ≤ 20) := hrows
 have HGR : Hid (∀ f ∈ Gs, f.2.length ≤ 20) := hrowsG
 have HVL := Lib.hid hvals
 have HVLG := Lib.hid hvalsG
 have HCOK := Lib.hid hcok
 have HCOKG := Lib.hid hcokG
 have HDB := Lib.hid hdb
 have HGG : Hid ((madeF S vs).1 = G ∧ (madeF S vs).2 = Gs) := ⟨hG.symm, hGs.symm⟩
 obtain ⟨g7, hg7⟩ : ∃ g, g = w3.heap.size := ⟨_, rfl⟩
 obtain ⟨g8, hg8⟩ : ∃ g, g = w3.heap.size + 1 := ⟨_, rfl⟩
 obtain ⟨W4, hW4⟩ : ∃ W, W = (w3.alloc (.cells #[.map (some bd)] 28)).alloc (.cells #[.slice SA S.length SC, .slice FA Fs.length FC] 31) := ⟨_, rfl⟩
 have hb4 : Below w3.heap.size w3 W4 := by rw [hW4]; exact (((Ext.refl w3).alloc _).alloc _).below
 have HR7 : Hid (Row W4 g7 28 [.map (some bd)]) := by show Row _ _ _ _; rw [hW4, hg7]; exact (Row.new w3 28 _).alloc _
 have HR8 : Hid (Row W4 g8 31 [.slice SA S.length SC, .slice FA Fs.length FC]) := by
  have h := Row.new (w3.alloc (.cells #[.map (some bd)] 28)) 31 [.slice SA S.length SC, .slice FA Fs.length FC]
  rw [World.size_alloc] at h
  show Row _ _ _ _
  rw [hW4, hg8]; exact h
 have HD4 := Lib.hid (HDB.out.up hb4)
 have HB4 := Lib.hid (HB3.out.trans (hb4.mono HB3.out.size))
 have HFM4 : Hid (FactsM W4.heap.size W4 FA Fs) := by
  obtain ⟨A', C', e', _, h3⟩ := Sl.of_own_n (own_keep hof hb4)
  injection e' with e1 e2 e3
  subst e1
  exact FactsM.of_cs (FctCs.up hfc (hb3.trans (hb4.mono hb3.size))) h3
 have HW4 := Lib.hid hW4
 have HG7 := Lib.hid hg7
 have HG8 := Lib.hid hg8
 clear hbad hok HMD hrel hrelG hrows hrowsG hvals hvalsG hcok hcokG hdb hfc hof he hF hFs hG hGs hW4 hg7 hg8 hb4 hb3 HDB
 go_upto_region 6 with (fail)
 rw [← HW4.out, ← HG8.out, ← HG7.out]
 clear HW4 HG8 HG7
 go_wp2_with fail
 refine (HME.out W4 HB4.out).mono ?_
 rintro e w5 ⟨-, hok, hb5⟩
 obtain ⟨be, GA, GC, cs2, rfl, hdb, hfc, hof⟩ := hok HE.out
 rw [HGG.out.1] at hdb
 rw [HGG.out.2] at hfc hof ⊢
 have HB5 := Lib.hid (HB4.out.trans (hb5.mono HB4.out.size))
 obtain ⟨g10, hg10⟩ : ∃ g, g = w5.heap.size := ⟨_, rfl⟩
 obtain ⟨g11, hg11⟩ : ∃ g, g = w5.heap.size + 1 := ⟨_, rfl⟩
 obtain ⟨W6, hW6⟩ : ∃ W, W = (w5.alloc (.cells #[.map (some be)] 28)).alloc (.cells #[.slice SA S.length SC, .slice GA Gs.length GC] 31) := ⟨_, rfl⟩
 have hb6 : Below w5.heap.size w5 W6 := by rw [hW6]; exact (((Ext.refl w5).alloc _).alloc _).below
 have hb46 := hb5.trans (hb6.mono hb5.size)
 have HR10 : Hid (Row W6 g10 28 [.map (some be)]) := by show Row _ _ _ _; rw [hW6, hg10]; exact (Row.new w5 28 _).alloc _
 have HR11 : Hid (Row W6 g11 31 [.slice SA S.length SC, .slice GA Gs.length GC]) := by
  have h := Row.new (w5.alloc (.cells #[.map (some be)] 28)) 31 [.slice SA S.length SC, .slice GA Gs.length GC]
  rw [World.size_alloc] at h
  show Row _ _ _ _
  rw [hW6, hg11]; exact h
 have HR76 := Lib.hid (HR7.out.up hb46)
 have HR86 := Lib.hid (HR8.out.up hb46)
 have HD6 := Lib.hid (HD4.out.up hb46)
 have HE6 := Lib.hid (DbM.up hdb hb6)
 have HFM6 := Lib.hid (HFM4.out.up hb46)
 have HGM6 : Hid (FactsM W6.heap.size W6 GA Gs) := by
  obtain ⟨A', C', e', _, h3⟩ := Sl.of_own_n (own_keep hof hb6)
  injection e' with e1 e2 e3
  subst e1
  exact FactsM.of_cs (FctCs.up hfc (hb5.trans (hb6.mono hb5.size))) h3
 have HB6 := Lib.hid (HB4.out.trans (hb46.mono HB4.out.size))
 have HW6 := Lib.hid hW6
 have HG10 := Lib.hid hg10
 have HG11 := Lib.hid hg11
 clear hok hdb hfc hof hb5 hb6 hb46 hW6 hg10 hg11 HME HGG HR7 HR8 HD4 HFM4
 go_upto_region 7 with (fail)
 rw [← HW6.out, ← HG11.out, ← HG10.out]
 clear HW6 HG11 HG10
 have HKP : Hid (∀ V, Below W6.heap.size W6 V → V.cell? ⟨g7, 0, none⟩ = some (.map (some bd)) ∧ V.cell? ⟨g8, 0, none⟩ = some (.slice SA S.length SC) ∧ V.cell? ⟨g8, 1, none⟩ = some (.slice FA Fs.length FC) ∧ V.cell? ⟨g10, 0, none⟩ = some (.map (some be)) ∧ V.cell? ⟨g11, 0, none⟩ = some (.slice SA S.length SC) ∧ V.cell? ⟨g11, 1, none⟩ = some (.slice GA Gs.length GC) ∧ g7 < V.heap.size ∧ g8 < V.heap.size ∧ g10 < V.heap.size ∧ g11 < V.heap.size) := fun V hb =>
  ⟨cell_below hb (HR76.out.cell 0), cell_below hb (HR86.out.cell 0), cell_below hb (HR86.out.cell 1), cell_below hb (HR10.out.cell 0), cell_below hb (HR11.out.cell 0), cell_below hb (HR11.out.cell 1), Nat.lt_of_lt_of_le HR76.out.lt hb.size, Nat.lt_of_lt_of_le HR86.out.lt hb.size, Nat.lt_of_lt_of_le HR10.out.lt hb.size, Nat.lt_of_lt_of_le HR11.out.lt hb.size⟩
 have HDF := Lib.hid (ctDiffN_any W6 HD6.out HE6.out HND.out HL16.out (fun p hp => by have := nameF_size (HMEM.out p hp).1; omega))
 obtain ⟨c7, c80, c81, c10, c110, c111, z7, z8, z10, z11⟩ := HKP.out W6 (Below.refl _ _)
 go_wp2_with fail
 refine HDF.out.mono ?_
 rintro e w7 ⟨DA, DC, ns, rfl, hns, hdm, hb7⟩
 have HNS := Lib.hid hns
 have HDM := Lib.hid hdm
 have HB67 := Lib.hid hb7
 have HB7 := Lib.hid (HB6.out.trans (hb7.mono HB6.out.size))
 have HRD := Lib.hid (r08Diff_any SA SC S (.slice SA S.length SC) FA GA FC GC F G Fs Gs w7 (HS.out.up HB7.out) (by have := HL.out; omega) HND.out HREL.out HRELG.out (HFM6.out.up hb7) (HGM6.out.up hb7) (by have := HFL.out; omega) (by have := HFL.out; omega) (fun f hf => by have := HFR.out f hf; omega) (fun f hf => by have := HGR.out f hf; omega))
 obtain ⟨c7, c80, c81, c10, c110, c111, z7, z8, z10, z11⟩ := HKP.out w7 hb7
 clear hns hdm hb7 HDF
 go_wp2_with fail
 refine HRD.out.mono ?_
 rintro e w8 ⟨EA, EC, ns', rfl, hns', es, hec, heo, hb8⟩
 obtain rfl := NamesOf.eq hns' HNS.out
 have HB68 := Lib.hid (HB67.out.trans (hb8.mono HB67.out.size))
 have HB8 := Lib.hid (HB7.out.trans (hb8.mono HB7.out.size))
 have HDM8 : Hid (UpdsM w8.heap.size w8 DA (diffF ns' F G)) := UpdsM.up HDM.out hb8
 have HEM8 : Hid (UpdsM w8.heap.size w8 EA (diffF ns' F G)) := by
  obtain ⟨A', C', e', _, h3⟩ := Sl.of_own_n heo
  injection e' with e1 e2 e3
  subst e1
  exact UpdsM.of_cs ((hec.below hb8 (Nat.le_refl _)).more hb8.size) h3
 have HSD := Lib.hid (sameC_diff (fun nm => HREL.out.2.1 nm) (fun nm => HRELG.out.2.1 nm) HNS.out)
 have HLN : Hid ((diffF ns' F G).length ≤ 48000) := by
  show _ ≤ _
  have h := diffF_le3 (F := F) (G := G) (fun nm => ⟨Nat.le_trans (HREL.out.len nm) (by have := HFL.out; omega), Nat.le_trans (HRELG.out.len nm) (by have := HFL.out; omega)⟩) ns'
  have h2 := HNS.out.1.length_eq
  rw [List.length_map] at h2
  have := HL16.out
  have h3 : ns'.length * 400 ≤ 16 * 400 := Nat.mul_le_mul_right _ (by omega)
  omega
 have HUDS : Hid (∀ u ∈ diffF ns' F G, UpdOk u ∧ u.row.length ≤ 20) := diff_ok fun nm hnm d x hx => by
  obtain ⟨p, hp, rfl⟩ := List.mem_map.1 (HNS.out.1.mem_iff.1 hnm)
  have h1 := nameF_size (HMEM.out p hp).1
  rcases hx with hx | hx
  ·have h2 := HFR.out _ ((HREL.out.2.2 _ x).1 hx)
   have h3 := HVL.out _ ((HREL.out.2.2 _ x).1 hx)
   exact ⟨⟨by show p.1.size ≤ _; omega, by show x.length ≤ _; have : x.length ≤ 20 := h2; omega, h3⟩, h2⟩
  ·have h2 := HGR.out _ ((HRELG.out.2.2 _ x).1 hx)
   have h3 := HVLG.out _ ((HRELG.out.2.2 _ x).1 hx)
   exact ⟨⟨by show p.1.size ≤ _; omega, by show x.length ≤ _; have : x.length ≤ 20 := h2; omega, h3⟩, h2⟩
 obtain ⟨H, hH1, hH2, -⟩ := diff_run HCOK.out HCOKG.out ns' (asc_nodup HNS.out.2) (fun s hs => HNS.out.1.mem_iff.1 hs) F 0 (fun _ _ => rfl)
 rw [Nat.zero_add] at hH1
 have HAPF := Lib.hid hH1
 have HHG : Hid (sameC S H G = true) := by
  show _ = _
  unfold sameC
  rw [List.all_eq_true]
  exact fun p hp => decide_eq_true (hH2 p.1 (HNS.out.1.mem_iff.2 (List.mem_map.2 ⟨p, hp, rfl⟩)))
 have hqq : (((diffF ns' F G).length : Int) != ((diffF ns' F G).length : Int)) = false := by simp
 clear hns' hec heo hb8 HRD HDM hH1 hH2 c7 c80 c81 c10 c110 c111 z7 z8 z10 z11
 generalize diffF ns' F G = U at *
 go_wp2_with fail
 go_loopw [16] (fun c wx => ∃ k : Nat, k ≤ U.length ∧ c = .int .i64 k ∧ Ext w8 wx) (fun c _ => U.length - (intOf c).toNat)
 case atStart => exact ⟨0, Nat.zero_le _, rfl, Ext.refl _⟩
 case round =>
  obtain ⟨k, hk, rfl, hx⟩ := hrel
  have HX := Lib.hid hx
  have hzz := hx.size
  clear hx
  by_cases hkl : k < U.length
  ·obtain ⟨db, dof, rfl, hdb, hdc⟩ := HDM8.out (by intro h0; rw [h0] at hkl; simp at hkl)
   obtain ⟨eb, eo, rfl, heb, hec⟩ := HEM8.out (by intro h0; rw [h0] at hkl; simp at hkl)
   obtain ⟨RA, RC, d0, d1, d2, hr⟩ := hdc k hkl
   obtain ⟨QA, QC, e0, e1, e2, hq⟩ := hec k hkl
   have hrl := (HUDS.out _ (List.getElem_mem hkl)).2
   have HSA : Hid (∀ V, Ext wr V → Calls Tryz.prog 22 #[.slice RA U[k].row.length RC, .slice QA U[k].row.length QC] V fun e V' => e = .returned (.bool true) ∧ Ext V V') := fun V hv => by
    have hx13 := HX.out.trans hv
    have h := r08Same_any RA QA RC QC U[k].row U[k].row V (Sl.more (Sl.ext hr (Nat.le_refl _) hx13) hx13.size) (Sl.more (Sl.ext hq (Nat.le_refl _) hx13) hx13.size) (by omega) (by omega)
    rw [decide_eq_true rfl] at h
    exact h
   have d0 := (HX.out.cell hdb).trans d0
   have d1 := (HX.out.cell hdb).trans d1
   have d2 := (HX.out.cell hdb).trans d2
   have e0 := (HX.out.cell heb).trans e0
   have e1 := (HX.out.cell heb).trans e1
   have e2 := (HX.out.cell heb).trans e2
   clear hdc hec hr hq hrl
   generalize U[k] = u at *
   obtain ⟨dl, nm, x⟩ := u
   have d0 : wr.cell? ⟨db, dof + k * 3, none⟩ = some (.bool dl) := d0
   have d1 : wr.cell? ⟨db, dof + k * 3 + 1, none⟩ = some (.string nm) := d1
   have d2 : wr.cell? ⟨db, dof + k * 3 + 2, none⟩ = some (.slice RA x.length RC) := d2
   have e0 : wr.cell? ⟨eb, eo + k * 3, none⟩ = some (.bool dl) := e0
   have e1 : wr.cell? ⟨eb, eo + k * 3 + 1, none⟩ = some (.string nm) := e1
   have e2 : wr.cell? ⟨eb, eo + k * 3 + 2, none⟩ = some (.slice QA x.length QC) := e2
   have HSA : Hid (∀ V, Ext wr V → Calls Tryz.prog 22 #[.slice RA x.length RC, .slice QA x.length QC] V fun e V' => e = .returned (.bool true) ∧ Ext V V') := HSA.out
   have q0 : (0 : Int) ≤ (k : Int) := by omega
   have q1 : (k : Int) < (U.length : Int) := by omega
   have q2 : (dl != dl) = false := by simp
   have q3 : (nm.toList == nm.toList) = true := beq_self_eq_true _
   have zd : db < wr.heap.size := by omega
   have ze : eb < wr.heap.size := by omega
   have hw1 : IntKind.i64.wrap ((k : Int) + 1) = ((k + 1 : Nat) : Int) := by rw [IntWalk.i64_in _ (by have := HLN.out; omega)]; omega
   go_upto_region 16 with (fail)
   refine wp_region_held_drew (S := (fun V => V.cell? ⟨db, dof + k * 3, none⟩ = some (.bool dl) ∧ V.cell? ⟨db, dof + k * 3 + 1, none⟩ = some (.string nm) ∧ V.cell? ⟨db, dof + k * 3 + 2, none⟩ = some (.slice RA x.length RC) ∧ V.cell? ⟨eb, eo + k * 3, none⟩ = some (.bool dl) ∧ V.cell? ⟨eb, eo + k * 3 + 1, none⟩ = some (.string nm) ∧ V.cell? ⟨eb, eo + k * 3 + 2, none⟩ = some (.slice QA x.length QC))) (by kernel_rfl) ⟨d0, d1, d2, e0, e1, e2⟩ (fun hHeld => ?_)
   refine takeOp (i := 0) (v := ?_) (some 80) rfl rfl (by kernel_rfl) (by kernel_rfl) (by kernel_rfl) (fun _ _ _ h => h) (Or.inl ⟨by rfl, ?_⟩) (by assumption) ?_
   rotate_left 1
   ·(intro w0 hSw; (try dsimp only at hSw); go_simp; try (with_reducible rfl))
   try simp only [Act.put, List.setIfInBounds_toArray, List.set_cons_succ, List.set_cons_zero]
   refine takeOp (i := 1) (v := ?_) (some 81) rfl rfl (by kernel_rfl) (by kernel_rfl) (by kernel_rfl) (fun _ _ _ h => h) (Or.inl ⟨by rfl, ?_⟩) (by assumption) ?_
   rotate_left 1
   ·(intro w0 hSw; (try dsimp only at hSw); go_simp; try (with_reducible rfl))
   try simp only [Act.put, List.setIfInBounds_toArray, List.set_cons_succ, List.set_cons_zero]
   refine takeOp (i := 2) (v := ?_) (some 82) rfl rfl (by kernel_rfl) (by kernel_rfl) (by kernel_rfl) (fun _ _ _ h => h) (Or.inl ⟨by rfl, ?_⟩) (by assumption) ?_
   rotate_left 1
   ·(intro w0 hSw; (try dsimp only at hSw); go_simp; try (with_reducible rfl))
   try simp only [Act.put, List.setIfInBounds_toArray, List.set_cons_succ, List.set_cons_zero]
   refine takeOp (i := 3) (v := ?_) (some 83) rfl rfl (by kernel_rfl) (by kernel_rfl) (by kernel_rfl) (fun _ _ _ h => h) (Or.inl ⟨by rfl, ?_⟩) (by assumption) ?_
   rotate_left 1
   ·(intro w0 hSw; (try dsimp only at hSw); go_simp; try (with_reducible rfl))
   try simp only [Act.put, List.setIfInBounds_toArray, List.set_cons_succ, List.set_cons_zero]
   refine takeOp (i := 4) (v := ?_) (some 84) rfl rfl (by kernel_rfl) (by kernel_rfl) (by kernel_rfl) (fun _ _ _ h => h) (Or.inl ⟨by rfl, ?_⟩) (by assumption) ?_
   rotate_left 1
   ·(intro w0 hSw; (try dsimp only at hSw); go_simp; try (with_reducible rfl))
   try simp only [Act.put, List.setIfInBounds_toArray, List.set_cons_succ, List.set_cons_zero]
   refine takeOp (i := 5) (v := ?_) (some 85) rfl rfl (by kernel_rfl) (by kernel_rfl) (by kernel_rfl) (fun _ _ _ h => h) (Or.inl ⟨by rfl, ?_⟩) (by assumption) ?_
   rotate_left 1
   ·(intro w0 hSw; (try dsimp only at hSw); go_simp; try (with_reducible rfl))
   try simp only [Act.put, List.setIfInBounds_toArray, List.set_cons_succ, List.set_cons_zero]
   refine takeOp (i := 6) (v := ?_) (some 86) rfl rfl (by kernel_rfl) (by kernel_rfl) (by kernel_rfl) (fun _ _ _ h => h) (Or.inl ⟨by rfl, ?_⟩) (by assumption) ?_
   rotate_left 1
   ·(intro w0 hSw; (try dsimp only at hSw); go_simp; try (with_reducible rfl))
   try simp only [Act.put, List.setIfInBounds_toArray, List.set_cons_succ, List.set_cons_zero]
   refine takeOp (i := 7) (v := ?_) (some 87) rfl rfl (by kernel_rfl) (by kernel_rfl) (by kernel_rfl) (fun _ _ _ h => h) (Or.inl ⟨by rfl, ?_⟩) (by assumption) ?_
   rotate_left 1
   ·(intro w0 hSw; (try dsimp only at hSw); go_simp; try (with_reducible rfl))
   try simp only [Act.put, List.setIfInBounds_toArray, List.set_cons_succ, List.set_cons_zero]
   refine takeOp (i := 8) (v := ?_) (some 88) rfl rfl (by kernel_rfl) (by kernel_rfl) (by kernel_rfl) (fun _ _ _ h => h) (Or.inl ⟨by rfl, ?_⟩) (by assumption) ?_
   rotate_left 1
   ·(intro w0 hSw; (try dsimp only at hSw); go_simp; try (with_reducible rfl))
   try simp only [Act.put, List.setIfInBounds_toArray, List.set_cons_succ, List.set_cons_zero]
   refine takeOp (i := 9) (v := ?_) (some 89) rfl rfl (by kernel_rfl) (by kernel_rfl) (by kernel_rfl) (fun _ _ _ h => h) (Or.inl ⟨by rfl, ?_⟩) (by assumption) ?_
   rotate_left 1
   ·(intro w0 hSw; (try dsimp only at hSw); go_simp; try (with_reducible rfl))
   try simp only [Act.put, List.setIfInBounds_toArray, List.set_cons_succ, List.set_cons_zero]
   refine takeOp (i := 10) (v := ?_) (some 90) rfl rfl (by kernel_rfl) (by kernel_rfl) (by kernel_rfl) (fun _ _ _ h => h) (Or.inl ⟨by rfl, ?_⟩) (by assumption) ?_
   rotate_left 1
   ·(intro w0 hSw; (try dsimp only at hSw); go_simp; try (with_reducible rfl))
   try simp only [Act.put, List.setIfInBounds_toArray, List.set_cons_succ, List.set_cons_zero]
   refine takeOp (i := 11) (v := ?_) (some 91) rfl rfl (by kernel_rfl) (by kernel_rfl) (by kernel_rfl) (fun _ _ _ h => h) (Or.inl ⟨by rfl, ?_⟩) (by assumption) ?_
   rotate_left 1
   ·(intro w0 hSw; (try dsimp only at hSw); go_simp; try (with_reducible rfl))
   try simp only [Act.put, List.setIfInBounds_toArray, List.set_cons_succ, List.set_cons_zero]
   refine takeOp (i := 12) (v := ?_) (some 92) rfl rfl (by kernel_rfl) (by kernel_rfl) (by kernel_rfl) (fun _ _ _ h => h) (Or.inl ⟨by rfl, ?_⟩) (by assumption) ?_
   rotate_left 1
   ·(intro w0 hSw; (try dsimp only at hSw); go_simp; try (with_reducible rfl))
   try simp only [Act.put, List.setIfInBounds_toArray, List.set_cons_succ, List.set_cons_zero]
   refine takeOp (i := 13) (v := ?_) (some 93) rfl rfl (by kernel_rfl) (by kernel_rfl) (by kernel_rfl) (fun _ _ _ h => h) (Or.inl ⟨by rfl, ?_⟩) (by assumption) ?_
   rotate_left 1
   ·(intro w0 hSw; (try dsimp only at hSw); go_simp; try (with_reducible rfl))
   try simp only [Act.put, List.setIfInBounds_toArray, List.set_cons_succ, List.set_cons_zero]
   refine takeOp (i := 14) (v := ?_) (some 94) rfl rfl (by kernel_rfl) (by kernel_rfl) (by kernel_rfl) (fun _ _ _ h => h) (Or.inl ⟨by rfl, ?_⟩) (by assumption) ?_
   rotate_left 1
   ·(intro w0 hSw; (try dsimp only at hSw); go_simp; try (with_reducible rfl))
   try simp only [Act.put, List.setIfInBounds_toArray, List.set_cons_succ, List.set_cons_zero]
   refine takeOp (i := 15) (v := ?_) (some 95) rfl rfl (by kernel_rfl) (by kernel_rfl) (by kernel_rfl) (fun _ _ _ h => h) (Or.inl ⟨by rfl, ?_⟩) (by assumption) ?_
   rotate_left 1
   ·(intro w0 hSw; (try dsimp only at hSw); go_simp; try (with_reducible rfl))
   try simp only [Act.put, List.setIfInBounds_toArray, List.set_cons_succ, List.set_cons_zero]
   refine takeOp (i := 16) (v := ?_) (some 96) rfl rfl (by kernel_rfl) (by kernel_rfl) (by kernel_rfl) (fun _ _ _ h => h) (Or.inl ⟨by rfl, ?_⟩) (by assumption) ?_
   rotate_left 1
   ·(intro w0 hSw; (try dsimp only at hSw); go_simp; try (with_reducible rfl))
   try simp only [Act.put, List.setIfInBounds_toArray, List.set_cons_succ, List.set_cons_zero]
   refine takeOp (i := 17) (v := ?_) (some 97) rfl rfl (by kernel_rfl) (by kernel_rfl) (by kernel_rfl) (fun _ _ _ h => h) (Or.inl ⟨by rfl, ?_⟩) (by assumption) ?_
   rotate_left 1
   ·(intro w0 hSw; (try dsimp only at hSw); go_simp; try (with_reducible rfl))
   try simp only [Act.put, List.setIfInBounds_toArray, List.set_cons_succ, List.set_cons_zero]
   refine takeOp (i := 18) (v := ?_) (some 98) rfl rfl (by kernel_rfl) (by kernel_rfl) (by kernel_rfl) (fun _ _ _ h => h) (Or.inl ⟨by rfl, ?_⟩) (by assumption) ?_
   rotate_left 1
   ·(intro w0 hSw; (try dsimp only at hSw); go_simp; try (with_reducible rfl))
   try simp only [Act.put, List.setIfInBounds_toArray, List.set_cons_succ, List.set_cons_zero]
   refine takeOp (i := 19) (v := ?_) (some 99) rfl rfl (by kernel_rfl) (by kernel_rfl) (by kernel_rfl) (fun _ _ _ h => h) (Or.inl ⟨by rfl, ?_⟩) (by assumption) ?_
   rotate_left 1
   ·(intro w0 hSw; (try dsimp only at hSw); go_simp; try (with_reducible rfl))
   try simp only [Act.put, List.setIfInBounds_toArray, List.set_cons_succ, List.set_cons_zero]
   refine takeOp (i := 20) (v := ?_) (some 100) rfl rfl (by kernel_rfl) (by kernel_rfl) (by kernel_rfl) (fun _ _ _ h => h) (Or.inl ⟨by rfl, ?_⟩) (by assumption) ?_
   rotate_left 1
   ·(intro w0 hSw; (try dsimp only at hSw); go_simp; try (with_reducible rfl))
   try simp only [Act.put, List.setIfInBounds_toArray, List.set_cons_succ, List.set_cons_zero]
   refine takeOp (i := 21) (v := ?_) (some 101) rfl rfl (by kernel_rfl) (by kernel_rfl) (by kernel_rfl) (fun _ _ _ h => h) (Or.inl ⟨by rfl, ?_⟩) (by assumption) ?_
   rotate_left 1
   ·(intro w0 hSw; (try dsimp only at hSw); go_simp; try (with_reducible rfl))
   try simp only [Act.put, List.setIfInBounds_toArray, List.set_cons_succ, List.set_cons_zero]
   refine takeOp (i := 22) (v := ?_) (some 102) rfl rfl (by kernel_rfl) (by kernel_rfl) (by kernel_rfl) (fun _ _ _ h => h) (Or.inl ⟨by rfl, ?_⟩) (by assumption) ?_
   rotate_left 1
   ·(intro w0 hSw; (try dsimp only at hSw); go_simp; try (with_reducible rfl))
   try simp only [Act.put, List.setIfInBounds_toArray, List.set_cons_succ, List.set_cons_zero]
   refine takeOp (i := 23) (v := ?_) (some 103) rfl rfl (by kernel_rfl) (by kernel_rfl) (by kernel_rfl) (fun _ _ _ h => h) (Or.inl ⟨by rfl, ?_⟩) (by assumption) ?_
   rotate_left 1
   ·(intro w0 hSw; (try dsimp only at hSw); go_simp; try (with_reducible rfl))
   try simp only [Act.put, List.setIfInBounds_toArray, List.set_cons_succ, List.set_cons_zero]
   refine takeOp (i := 24) (v := ?_) (some 104) rfl rfl (by kernel_rfl) (by kernel_rfl) (by kernel_rfl) (fun _ _ _ h => h) (Or.inl ⟨by rfl, ?_⟩) (by assumption) ?_
   rotate_left 1
   ·(intro w0 hSw; (try dsimp only at hSw); go_simp; try (with_reducible rfl))
   try simp only [Act.put, List.setIfInBounds_toArray, List.set_cons_succ, List.set_cons_zero]
   refine takeOp (i := 25) (v := ?_) (some 105) rfl rfl (by kernel_rfl) (by kernel_rfl) (by kernel_rfl) (fun _ _ _ h => h) (Or.inl ⟨by rfl, ?_⟩) (by assumption) ?_
   rotate_left 1
   ·(intro w0 hSw; (try dsimp only at hSw); go_simp; try (with_reducible rfl))
   try simp only [Act.put, List.setIfInBounds_toArray, List.set_cons_succ, List.set_cons_zero]
   refine takeOp (i := 26) (v := ?_) (some 106) rfl rfl (by kernel_rfl) (by kernel_rfl) (by kernel_rfl) (fun _ _ _ h => h) (Or.inl ⟨by rfl, ?_⟩) (by assumption) ?_
   rotate_left 1
   ·(intro w0 hSw; (try dsimp only at hSw); go_simp; try (with_reducible rfl))
   try simp only [Act.put, List.setIfInBounds_toArray, List.set_cons_succ, List.set_cons_zero]
   refine takeOp (i := 27) (v := ?_) (some 107) rfl rfl (by kernel_rfl) (by kernel_rfl) (by kernel_rfl) (fun _ _ _ h => h) (Or.inl ⟨by rfl, ?_⟩) (by assumption) ?_
   rotate_left 1
   ·(intro w0 hSw; (try dsimp only at hSw); go_simp; try (with_reducible rfl))
   try simp only [Act.put, List.setIfInBounds_toArray, List.set_cons_succ, List.set_cons_zero]
   refine takeOp (i := 28) (v := ?_) (some 108) rfl rfl (by kernel_rfl) (by kernel_rfl) (by kernel_rfl) (fun _ _ _ h => h) (Or.inl ⟨by rfl, ?_⟩) (by assumption) ?_
   rotate_left 1
   ·(intro w0 hSw; (try dsimp only at hSw); go_simp; try (with_reducible rfl))
   try simp only [Act.put, List.setIfInBounds_toArray, List.set_cons_succ, List.set_cons_zero]
   refine takeOp (i := 29) (v := ?_) (some 109) rfl rfl (by kernel_rfl) (by kernel_rfl) (by kernel_rfl) (fun _ _ _ h => h) (Or.inl ⟨by rfl, ?_⟩) (by assumption) ?_
   rotate_left 1
   ·(intro w0 hSw; (try dsimp only at hSw); go_simp; try (with_reducible rfl))
   try simp only [Act.put, List.setIfInBounds_toArray, List.set_cons_succ, List.set_cons_zero]
   refine takeOp (i := 30) (v := ?_) (some 110) rfl rfl (by kernel_rfl) (by kernel_rfl) (by kernel_rfl) (fun _ _ _ h => h) (Or.inl ⟨by rfl, ?_⟩) (by assumption) ?_
   rotate_left 1
   ·(intro w0 hSw; (try dsimp only at hSw); go_simp; try (with_reducible rfl))
   try simp only [Act.put, List.setIfInBounds_toArray, List.set_cons_succ, List.set_cons_zero]
   refine takeOp (i := 31) (v := ?_) (some 111) rfl rfl (by kernel_rfl) (by kernel_rfl) (by kernel_rfl) (fun _ _ _ h => h) (Or.inl ⟨by rfl, ?_⟩) (by assumption) ?_
   rotate_left 1
   ·(intro w0 hSw; (try dsimp only at hSw); go_simp; try (with_reducible rfl))
   try simp only [Act.put, List.setIfInBounds_toArray, List.set_cons_succ, List.set_cons_zero]
   refine takeOp (i := 32) (v := ?_) (some 112) rfl rfl (by kernel_rfl) (by kernel_rfl) (by kernel_rfl) (fun _ _ _ h => h) (Or.inl ⟨by rfl, ?_⟩) (by assumption) ?_
   rotate_left 1
   ·(intro w0 hSw; (try dsimp only at hSw); go_simp; try (with_reducible rfl))
   try simp only [Act.put, List.setIfInBounds_toArray, List.set_cons_succ, List.set_cons_zero]
   refine takeOp (i := 33) (v := ?_) (some 113) rfl rfl (by kernel_rfl) (by kernel_rfl) (by kernel_rfl) (fun _ _ _ h => h) (Or.inl ⟨by rfl, ?_⟩) (by assumption) ?_
   rotate_left 1
   ·(intro w0 hSw; (try dsimp only at hSw); go_simp; try (with_reducible rfl))
   try simp only [Act.put, List.setIfInBounds_toArray, List.set_cons_succ, List.set_cons_zero]
   refine takeOp (i := 34) (v := ?_) (some 114) rfl rfl (by kernel_rfl) (by kernel_rfl) (by kernel_rfl) (fun _ _ _ h => h) (Or.inl ⟨by rfl, ?_⟩) (by assumption) ?_
   rotate_left 1
   ·(intro w0 hSw; (try dsimp only at hSw); go_simp; try (with_reducible rfl))
   try simp only [Act.put, List.setIfInBounds_toArray, List.set_cons_succ, List.set_cons_zero]
   refine wpAnyH_ready (rs := [35]) (by kernel_rfl) (by simp) ?_
   refine AllReadyH.cons rfl (fun K hK => ?_) AllReadyH.nil
   go_simp
   refine (HSA.out wr.drew (Ext.refl _).drew).mono ?_
   rintro e V ⟨rfl, hxV⟩
   have hxV : Ext wr V := (Ext.refl wr).drew.trans hxV
   have HKK : Hid (V.cell? ⟨db, dof + k * 3, none⟩ = some (.bool dl) ∧ V.cell? ⟨db, dof + k * 3 + 1, none⟩ = some (.string nm) ∧ V.cell? ⟨db, dof + k * 3 + 2, none⟩ = some (.slice RA x.length RC) ∧ V.cell? ⟨eb, eo + k * 3, none⟩ = some (.bool dl) ∧ V.cell? ⟨eb, eo + k * 3 + 1, none⟩ = some (.string nm) ∧ V.cell? ⟨eb, eo + k * 3 + 2, none⟩ = some (.slice QA x.length QC)) := ⟨(hxV.cell zd).trans d0, (hxV.cell zd).trans d1, (hxV.cell zd).trans d2, (hxV.cell ze).trans e0, (hxV.cell ze).trans e1, (hxV.cell ze).trans e2⟩
   have HXV := Lib.hid (HX.out.trans hxV)
   clear hxV
   go_wp2_with fail
   refine hK.out _ _ HKK.out (fun hHeld => ?_)
   clear hK K
   try simp only [Act.put, List.setIfInBounds_toArray, List.set_cons_succ, List.set_cons_zero]
   refine takeOp (i := 36) (v := ?_) (some 116) rfl rfl (by kernel_rfl) (by kernel_rfl) (by kernel_rfl) (fun _ _ _ h => h) (Or.inl ⟨by rfl, ?_⟩) (by assumption) ?_
   rotate_left 1
   ·(intro w0 hSw; (try dsimp only at hSw); go_simp; try (with_reducible rfl))
   try simp only [Act.put, List.setIfInBounds_toArray, List.set_cons_succ, List.set_cons_zero]
   refine takeOp (i := 37) (v := ?_) (some 117) rfl rfl (by kernel_rfl) (by kernel_rfl) (by kernel_rfl) (fun _ _ _ h => h) (Or.inl ⟨by rfl, ?_⟩) (by assumption) ?_
   rotate_left 1
   ·(intro w0 hSw; (try dsimp only at hSw); go_simp; try (with_reducible rfl))
   try simp only [Act.put, List.setIfInBounds_toArray, List.set_cons_succ, List.set_cons_zero]
   refine wpAnyH_done (by kernel_rfl) ?_ _
   go_wp2_with fail
   go_roundw
   case rel => exact ⟨k + 1, hkl, by go_num, HXV.out⟩
   case measure => simp [intOf]; omega
  obtain rfl : k = U.length := by omega
  have q1 : ¬ (U.length : Int) < (U.length : Int) := by omega
  have HB6R := Lib.hid (HB68.out.trans (HX.out.below.mono HB68.out.size))
  have HBR := Lib.hid (HB8.out.trans (HX.out.below.mono HB8.out.size))
  have HAP := Lib.hid ((ctApply_any (fun _ => True) S (.map (some bd)) F DA DC U wr ((HD6.out.weak fun _ _ _ => trivial).up HB6R.out) (fun _ _ => trivial) (HDM8.out.up HX.out.below) (fun u hu => (HUDS.out u hu).1) (by have := HLN.out; omega) (by have := HL.out; omega)).mono fun e w' h => h.shape)
  rw [HAPF.out] at HAP
  obtain ⟨c7, c80, c81, c10, c110, c111, z7, z8, z10, z11⟩ := HKP.out wr HB6R.out
  clear hkl
  go_wp2_with fail
  refine HAP.out.mono ?_
  rintro e w9 ⟨mx, c, rfl, hok, -, hb9⟩
  obtain ⟨hc, hdc⟩ := hok (by first | trivial | rfl)
  have hc : c = U.length := hc
  have hdc : DbM (fun _ => True) S w9 (.map mx) H := hdc
  subst hc
  obtain ⟨bc, hbc⟩ := hdc.form
  injection hbc with hbc
  subst hbc
  obtain ⟨g17, hg17⟩ : ∃ g, g = w9.heap.size := ⟨_, rfl⟩
  obtain ⟨W10, hW10⟩ : ∃ W, W = w9.alloc (.cells #[.map (some bc)] 28) := ⟨_, rfl⟩
  have hbx : Below w9.heap.size w9 W10 := by rw [hW10]; exact ((Ext.refl w9).alloc _).below
  have HR17 : Hid (Row W10 g17 28 [.map (some bc)]) := by show Row _ _ _ _; rw [hW10, hg17]; exact Row.new w9 _ _
  have HDC := Lib.hid (hdc.up hbx)
  have hb10 := hb9.trans (hbx.mono hb9.size)
  have HB610 := Lib.hid (HB6R.out.trans (hb10.mono HB6R.out.size))
  have HB10 := Lib.hid (HBR.out.trans (hb10.mono HBR.out.size))
  obtain ⟨ss, hss, hsl⟩ := HS.out.cells (Nat.le_refl _)
  have HSS := Lib.hid hss
  have HSSL := Lib.hid hsl
  have HZ10 : Hid (w.heap.size ≤ W10.heap.size) := HB10.out.size
  have HW10 := Lib.hid hW10
  have HG17 := Lib.hid hg17
  clear hok hdc hb9 hbx hb10 hss hsl hW10 hg17 HAP c7 c80 c81 c10 c110 c111 z7 z8 z10 z11
  go_upto_region 19 with (fail)
  rw [← HW10.out, ← HG17.out]
  clear HW10 HG17
  have HE0 := Lib.hid (own_emptyF W10 W10.heap.size 62 2 (Nat.le_refl _))
  have HX11 : Hid (Ext W10 (W10.alloc (.cells #[] 62))) := (Ext.refl W10).alloc _
  have HS11 : Hid (Sl (W10.alloc (.cells #[] 62)).heap.size (W10.alloc (.cells #[] 62)) SA ss) := by
   have hb := HB10.out.trans (HX11.out.below.mono HZ10.out)
   exact Sl.more (Sl.below HSSL.out hb (Nat.le_refl _)) hb.size
  have HLS : Hid (ss.length = S.length * 2) := HSS.out.len
  obtain ⟨X, hX⟩ : ∃ X, X = S ++ [(zz9, ([] : List Int))] := ⟨_, rfl⟩
  have HXE := Lib.hid hX
  have HXL : Hid (X.length = S.length + 1) := by show _ = _; rw [hX]; simp
  have HSCX : Hid (SchCs (fun b => b < w.heap.size) w X (ss ++ [.string zz9, .slice none 0 0])) := by show SchCs _ _ _ _; rw [hX]; exact HSS.out.snocZ zz9
  have HXOK : Hid (SchsOk X) := by
   show SchsOk X
   rw [hX]
   intro p hp
   rcases List.mem_append.1 hp with hp | hp
   ·exact HSO.out p hp
   ·rw [List.mem_singleton.1 hp]; exact ⟨by decide, by decide⟩
  have HXZ : Hid (errS X ≠ 0 → S.length ≠ 0) := fun h h0 => by
   have : S = [] := List.eq_nil_of_length_eq_zero h0
   rw [hX, this] at h
   exact h (by decide)
  have hsl20 := HL.out.1
  clear hX
  go_wp2_with (first
   | (at_builtin; refine appXSch rfl (.tmp 126) (.tmp 127) rfl W10.heap.size (.slice (some ⟨W10.heap.size, 0, none⟩) 0 0) 0 [] rfl HE0.out SA S.length SC ss rfl HLS.out HS11.out HSS.out.one (by omega) (by simp) ?_
      intro v2 w11 hown2 hg2 hat2
      have hb2 : Below W10.heap.size W10 w11 := HX11.out.below.grown hg2 (by simp) (fun q hq => by simp [Value.ownBlock] at hq; omega)
      have HB11 := Lib.hid (hb2.alloc hb2.size (.cells #[.string zz9, .slice none 0 0] 62))
      have HO3 := Lib.hid (hown2.alloc (.cells #[.string zz9, .slice none 0 0] 62))
      have HS3 : Hid (Sl (w11.alloc (.cells #[.string zz9, .slice none 0 0] 62)).heap.size (w11.alloc (.cells #[.string zz9, .slice none 0 0] 62)) (some ⟨w11.heap.size, 0, none⟩) [.string zz9, .slice none 0 0]) := (Row.new w11 62 [.string zz9, .slice none 0 0]).sl
      have hz11 := hb2.size
      clear hown2 hg2 hat2 hb2)
   | (at_builtin; refine appXSch rfl (.tmp 128) (.tmp 130) rfl W10.heap.size v2 (0 + S.length) ([] ++ ss) rfl HO3.out (some ⟨w11.heap.size, 0, none⟩) 1 1 [.string zz9, .slice none 0 0] rfl rfl HS3.out (fun u hu => by simp at hu; rcases hu with rfl | rfl <;> rfl) (by omega) (by simp; omega) ?_
      intro v3 w12 hown3 hg3 hat3
      rw [List.nil_append, show 0 + S.length + 1 = X.length by rw [HXL.out]; omega] at hown3
      obtain ⟨A3, C3, rfl, -, -, -⟩ := own_cut hown3 (by decide)
      have HO12 := Lib.hid hown3
      have HB1012 := Lib.hid (HB11.out.grown hg3 (by simp; omega) (fun q hq => own_base HO3.out hq))
      clear hown3 hg3 hat3)
   | fail)
  have HB12 := Lib.hid (HB10.out.trans (HB1012.out.mono HZ10.out))
  have HB612 := Lib.hid (HB610.out.trans (HB1012.out.mono HB610.out.size))
  have HN := Lib.hid (ctNew_any (fun _ => True) A3 C3 X w12 (fun _ _ => trivial) (SchCs.schs (HSCX.out.keep (Stay.of HB12.out)) HO12.out) HXOK.out (by rw [HXL.out]; omega))
  refine HN.out.mono ?_
  rintro e w13 ⟨n1, n2, hb13⟩
  have HMB : Hid (∃ (mb : Option Nat) (er : Int) (n' : Nat), e = .returned (.tuple #[.agg #[.map mb], .int .i64 er]) ∧ DbN w13 mb n' ∧ S.length ≠ n') := by
   by_cases h0 : errS X = 0
   ·obtain ⟨m, rfl, hd⟩ := n1 h0
    obtain ⟨b, rfl⟩ := hd.form
    exact ⟨some b, 0, X.length, rfl, .inr ⟨b, _, _, _, rfl, rfl, hd⟩, by rw [HXL.out]; omega⟩
   ·obtain rfl := n2 h0
    exact ⟨none, errS X, 0, rfl, .inl ⟨rfl, rfl⟩, HXZ.out h0⟩
  obtain ⟨mb, er, n', rfl, hdn, hnn⟩ := HMB.out
  obtain ⟨g20, hg20⟩ : ∃ g, g = w13.heap.size := ⟨_, rfl⟩
  obtain ⟨W14, hW14⟩ : ∃ W, W = w13.alloc (.cells #[.map mb] 28) := ⟨_, rfl⟩
  have hbx : Below w13.heap.size w13 W14 := by rw [hW14]; exact ((Ext.refl w13).alloc _).below
  have hb1014 := HB1012.out.trans ((hb13.trans (hbx.mono hb13.size)).mono HB1012.out.size)
  have HR20 : Hid (Row W14 g20 28 [.map mb]) := by show Row _ _ _ _; rw [hW14, hg20]; exact Row.new w13 _ _
  have HR1714 := Lib.hid (HR17.out.up hb1014)
  have HDC14 := Lib.hid (HDC.out.up hb1014)
  have HB614 := Lib.hid (HB610.out.trans (hb1014.mono HB610.out.size))
  have HB14 := Lib.hid (HB10.out.trans (hb1014.mono HZ10.out))
  have HDB2 := Lib.hid (ctDiff_bad W14 (mb := some bd) (n := S.length) (.inr ⟨bd, _, S, F, rfl, rfl, HD6.out.up HB614.out⟩) (hdn.up hbx) hnn)
  obtain ⟨c7, -, -, c10, -, -, z7, -, z10, -⟩ := HKP.out W14 HB614.out
  have c20 : W14.cell? ⟨g20, 0, none⟩ = some (.map mb) := HR20.out.cell 0
  have z20 := HR20.out.lt
  have HW14 := Lib.hid hW14
  have HG20 := Lib.hid hg20
  clear n1 n2 hb13 hdn hnn hbx hb1014 hW14 hg20 HMB HN
  go_upto_region 20 with (fail)
  rw [← HW14.out, ← HG20.out]
  clear HW14 HG20
  go_wp2_with fail
  refine HDB2.out.mono ?_
  rintro e w15 ⟨rfl, hb15⟩
  have HB1415 := Lib.hid hb15
  have HB15 := Lib.hid (HB14.out.trans (hb15.mono HB14.out.size))
  have HB615 := Lib.hid (HB614.out.trans (hb15.mono HB614.out.size))
  have HEQ1 := Lib.hid (ctEqual_any w15 (HDC14.out.up hb15) (HE6.out.up HB615.out) HND.out)
  rw [HHG.out] at HEQ1
  have HEQ2 : Hid (∀ V, Below w15.heap.size w15 V → Calls Tryz.prog 20 #[.agg #[.map (some bd)], .agg #[.map (some be)]] V fun e V' => e = .returned (.bool (decide (U.length = 0))) ∧ Below V.heap.size V V') := fun V hb => by
   have h6 := HB615.out.trans (hb.mono HB615.out.size)
   have h := ctEqual_any V (HD6.out.up h6) (HE6.out.up h6) HND.out
   rw [HSD.out] at h
   exact h
  have hu0 : ((U.length : Int) == 0) = decide (U.length = 0) := by
   by_cases h : U.length = 0
   ·rw [decide_eq_true h, h]; rfl
   ·rw [decide_eq_false h, beq_eq_false_iff_ne]; omega
  obtain ⟨bz, hbz⟩ : ∃ b, b = decide (U.length = 0) := ⟨_, rfl⟩
  rw [← hbz] at HEQ2 hu0
  have huu : ((U.length : Int) == (U.length : Int)) = true := by simp
  have c17 : w15.cell? ⟨g17, 0, none⟩ = some (.map (some bc)) := (HR1714.out.up hb15).cell 0
  have z17 := (HR1714.out.up hb15).lt
  obtain ⟨c7, -, -, c10, -, -, z7, -, z10, -⟩ := HKP.out w15 HB615.out
  clear hb15 hbz HDB2 c20 z20
  go_wp2_with fail
  refine HEQ1.out.mono ?_
  rintro e w16 ⟨rfl, hb16⟩
  have HB16 := Lib.hid hb16
  obtain ⟨c7, -, -, c10, -, -, z7, -, z10, -⟩ := HKP.out w16 (HB615.out.trans (hb16.mono HB615.out.size))
  clear hb16 HEQ1 c17 z17
  go_wp2_with fail
  refine (HEQ2.out w16 HB16.out).mono ?_
  rintro e w17 ⟨rfl, hb17⟩
  have HB17 := Lib.hid (HB15.out.trans ((HB16.out.trans (hb17.mono HB16.out.size)).mono HB15.out.size))
  clear hb17
  go_wp2_with fail
  go_ret
  exact ⟨rfl, HB17.out⟩
end
end Go.Proofs.YtdadchpiibipoaaGreatDoor

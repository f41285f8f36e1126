/- Parts of the proof, merged: C53, C54, C55, C58. -/
import Derived.Test.YtdadchpiibipoaaGreatDoorQb12
import Derived.Test.YtdadchpiibipoaaGreatDoorQb11
import Derived.Test.YtdadchpiibipoaaGreatDoorQb6

set_option maxRecDepth 100000
namespace Go.Proofs.YtdadchpiibipoaaGreatDoor
section
open Go.RowKit

def FNames (S : Sch) (Fs : List Fact) : Prop := ∀ f ∈ Fs, f.1 ∈ S.map Prod.fst
theorem RelF.count {F : Cont} {Fs : List Fact} (h : RelF F Fs) (nm : ByteArray) : (F nm).length = Fs.countP (fun f => decide (f.1 = nm)) := by
  rw [List.countP_eq_length_filter]
  have hn : (F nm).Nodup := RL.SS.nodup (h.2.1 nm)
  have hp : ((F nm).map fun x => ((nm, x) : Fact)).Perm (Fs.filter fun f => decide (f.1 = nm)) := by
    refine (List.perm_ext_iff_of_nodup (List.Pairwise.map _ (fun a b hab e => hab (by injection e)) hn) (h.1.filter _)).2 fun f => ?_
    rw [List.mem_map, List.mem_filter, decide_eq_true_eq]
    constructor
    · rintro ⟨x, hx, rfl⟩
      exact ⟨(h.2.2 nm x).1 hx, rfl⟩
    · rintro ⟨h1, h2⟩
      obtain ⟨a, b⟩ := f
      have h2 : a = nm := h2
      subst h2
      exact ⟨b, (h.2.2 a b).2 h1, rfl⟩
  have := hp.length_eq
  rw [List.length_map] at this
  exact this
theorem countP_split {α : Type} (p q r : α → Bool) (hr : ∀ a, r a = (p a || q a)) (hd : ∀ a, p a = true → q a = false) : ∀ l : List α, l.countP r = l.countP p + l.countP q
  | [] => rfl
  | a :: l => by
    rw [List.countP_cons, List.countP_cons, List.countP_cons, countP_split p q r hr hd l, hr a]
    cases hp : p a with
    | true => rw [hd a hp]; simp; omega
    | false => simp; omega
theorem sum_count {F : Cont} {Fs : List Fact} (h : RelF F Fs) : ∀ S : Sch, (S.map Prod.fst).Nodup → sumL S F (fun _ => true) = Fs.countP (fun f => memB f.1 (S.map Prod.fst))
  | [], _ => by
    show 0 = _
    rw [List.countP_eq_zero.2]
    intro f _ e
    cases e
  | q :: t, hn => by
    rw [List.map_cons, List.nodup_cons] at hn
    show (if true = true then (F q.1).length else 0) + sumL t F (fun _ => true) = _
    rw [if_pos rfl, sum_count h t hn.2, h.count]
    refine (countP_split _ _ _ (fun f => ?_) (fun f hf => ?_) Fs).symm
    · rw [List.map_cons]
      rcases Bool.eq_false_or_eq_true (memB f.1 (q.1 :: t.map Prod.fst)) with e | e
      · rw [e]
        rcases List.mem_cons.1 (memB_iff.1 e) with h1 | h1
        · rw [decide_eq_true h1]; rfl
        · rw [memB_iff.2 h1, Bool.or_true]
      · rw [e]
        have h1 : f.1 ∉ q.1 :: t.map Prod.fst := fun h2 => by rw [memB_iff.2 h2] at e; cases e
        rw [decide_eq_false (fun h2 => h1 (by rw [h2]; exact List.mem_cons_self))]
        cases h3 : memB f.1 (t.map Prod.fst) with
        | false => rfl
        | true => exact absurd (List.mem_cons_of_mem _ (memB_iff.1 h3)) h1
    · have h1 : f.1 = q.1 := of_decide_eq_true hf
      cases h3 : memB f.1 (t.map Prod.fst) with
      | false => rfl
      | true => rw [h1] at h3; exact absurd (memB_iff.1 h3) hn.1
theorem RelF.rows {S : Sch} {F : Cont} {Fs : List Fact} (h : RelF F Fs) (hn : FNames S Fs) (hnd : (S.map Prod.fst).Nodup) : rowsF S F = Fs.length := by
  unfold rowsF
  rw [sum_count h S hnd, List.countP_eq_length]
  exact fun f hf => memB_iff.2 (hn f hf)
theorem FNames.step {S : Sch} {Fs : List Fact} (h : FNames S Fs) {u : Upd} (hc : checkF S u.rel u.row = 0) : FNames S (refU Fs u).1 := by
  unfold refU
  split
  · split
    · exact fun f hf => h f (List.mem_filter.1 hf).1
    · intro f hf
      rcases List.mem_append.1 hf with hf | hf
      · exact h f hf
      · rw [List.mem_singleton.1 hf]
        obtain ⟨ks, hks, -⟩ := checkF_zero hc
        exact List.mem_map.2 ⟨_, hks, rfl⟩
  · exact h
theorem foldl_names (S : Sch) : ∀ (us : List Upd) (d : Cont × List Fact), FNames S d.2 → FNames S (us.foldl (madeS S) d).2
  | [], d, h => h
  | u :: us, d, h => by
    refine foldl_names S us _ ?_
    unfold madeS
    split
    · rename_i hs
      exact h.step (step_check hs)
    · exact h
theorem made_names (S : Sch) (us : List Upd) : FNames S (madeF S us).2 := foldl_names S us (fun _ => [], []) fun f hf => (by cases hf)
theorem foldl_rows (S : Sch) (n : Nat) : ∀ (us : List Upd) (d : Cont × List Fact), (∀ u ∈ us, u.row.length ≤ n) → (∀ f ∈ d.2, f.2.length ≤ n) → ∀ f ∈ (us.foldl (madeS S) d).2, f.2.length ≤ n
  | [], d, _, h => h
  | u :: us, d, hu, h => by
    refine foldl_rows S n us _ (fun v hv => hu v (List.mem_cons_of_mem _ hv)) ?_
    unfold madeS
    split
    · exact refU_rows h (hu u List.mem_cons_self)
    · exact h
theorem made_rows (S : Sch) (n : Nat) (us : List Upd) (hu : ∀ u ∈ us, u.row.length ≤ n) : ∀ f ∈ (madeF S us).2, f.2.length ≤ n := foldl_rows S n us (fun _ => [], []) hu fun f hf => (by cases hf)
theorem SlRsP.shrink {P : Nat → Prop} {B C : Nat} {w : World} {A : Option Addr} {X : List RL.R} (h : SlRsP P B w A X) (hP : ∀ b, P b → b < C) : SlRsP P C w A X := fun hn => by
  obtain ⟨b, o, e, hb, hp, hs, hH, hc⟩ := h hn
  refine ⟨b, o, e, hP b hp, hp, hs, ⟨hH.1, fun i u y h1 h2 => ?_⟩, hc⟩
  obtain ⟨A', C', g1, g2, g3, g4, g5⟩ := hH.2 i u y h1 h2
  refine ⟨A', C', g1, g2, g3, fun hne => ?_, g5⟩
  obtain ⟨b', o', e', hb', hc'⟩ := g4 hne
  exact ⟨b', o', e', hP b' (g5 (fun h0 => hne (by rw [h0]; rfl)) _ e'), hc'⟩
theorem SlIP.slI {P : Nat → Prop} {w : World} {A : Option Addr} {ks : List Int} (h : SlIP P w A ks) : SlI .i64 w.heap.size w A ks := fun hne => by
  obtain ⟨b, o, e, hb, -, hc⟩ := h (fun h0 => hne (by rw [h0]; rfl))
  exact ⟨b, o, e, hb, hc⟩
theorem nameF_size {s : ByteArray} (h : nameF s = true) : s.size ≤ 16 := by
  unfold nameF at h
  simp only [Bool.and_eq_true, decide_eq_true_eq] at h
  omega
end
section
open Go.RowKit Go.Sort Go.ChangeMaps Go.WideShapes

set_option maxHeartbeats 16000000 in
theorem l08Same_any {P : Nat → Prop} {m : Nat} (S : Sch) (F : Cont) (Fs : List Fact) (SA : Option Addr) (SC : Nat) (FA : Option Addr) (FC : Nat) (w : World) (hd : DbM P S w (.map (some m)) F) (hS : SchsM w.heap.size w SA S) (hE : errS S = 0)
    (hFM : FactsM w.heap.size w FA Fs) (hR : RelF F Fs) (hN : FNames S Fs) (hFl : Fs.length ≤ 1000) (hFr : ∀ f ∈ Fs, f.2.length ≤ 1000000) :
    Calls Tryz.prog 34 #[.agg #[.map (some m)], .agg #[.slice SA S.length SC, .slice FA Fs.length FC]] w fun e w' => e = .returned (.bool true) ∧ Below w.heap.size w w' := by
  obtain ⟨hS16, hnd, hmem⟩ := errS_mem hE
  obtain ⟨W0, hW0⟩ : ∃ W, W = (w.alloc (.cells #[.map (some m)] 28)).alloc (.cells #[.slice SA S.length SC, .slice FA Fs.length FC] 31) := ⟨_, rfl⟩
  have hx0 : Ext w W0 := by rw [hW0]; exact ((Ext.refl w).alloc _).alloc _
  have hr2 : Row W0 w.heap.size 28 [.map (some m)] := by rw [hW0]; exact (Row.new w 28 _).alloc _
  have hr3 : Row W0 (w.heap.size + 1) 31 [.slice SA S.length SC, .slice FA Fs.length FC] := by
    have h := Row.new (w.alloc (.cells #[.map (some m)] 28)) 31 [.slice SA S.length SC, .slice FA Fs.length FC]
    rw [World.size_alloc] at h
    rw [hW0]; exact h
  have HB0 := Lib.hid hx0.below
  have HR2 := Lib.hid hr2
  have HR3 := Lib.hid hr3
  have HS := Lib.hid hS
  have HND : Hid (S.map Prod.fst).Nodup := hnd
  have HMEM := Lib.hid hmem
  have HFM := Lib.hid hFM
  have HREL := Lib.hid hR
  have HFR := Lib.hid hFr
  have HL : Hid (S.length ≤ 16 ∧ Fs.length ≤ 1000) := ⟨hS16, hFl⟩
  have HROWS : Hid (rowsF S F = Fs.length) := hR.rows hN hnd
  have HD : Hid (DbM (fun b => b < w.heap.size) S w (.map (some m)) F) := hd.weak fun b hb _ => hb
  have HNM := Lib.hid (r08Names_any SA SC S (.slice FA Fs.length FC) W0 (hS.up hx0.below) (by omega) hnd)
  obtain ⟨g2, hg2⟩ : ∃ g, g = w.heap.size := ⟨_, rfl⟩
  obtain ⟨g3, hg3⟩ : ∃ g, g = w.heap.size + 1 := ⟨_, rfl⟩
  rw [← hg2] at HR2
  rw [← hg3] at HR3
  have HGG : Hid (w.heap.size ≤ g2 ∧ w.heap.size ≤ g3) := ⟨by omega, by omega⟩
  have HDU : Hid (∀ V, Below w.heap.size w V → DbM (fun b => b < w.heap.size) S V (.map (some m)) F) := fun V hb => HD.out.up hb
  have HKP0 : Hid (∀ V, Below W0.heap.size W0 V → V.cell? ⟨g2, 0, none⟩ = some (.map (some m)) ∧ V.cell? ⟨g3, 0, none⟩ = some (.slice SA S.length SC) ∧ V.cell? ⟨g3, 1, none⟩ = some (.slice FA Fs.length FC)) := fun V hb => ⟨cell_below hb (HR2.out.cell 0), cell_below hb (HR3.out.cell 0), cell_below hb (HR3.out.cell 1)⟩
  have hg2z := HR2.out.lt
  have hg3z := HR3.out.lt
  obtain ⟨c2, c30, c31⟩ := HKP0.out W0 (Below.refl _ _)
  clear hd hS hE hFM hR hN hFl hFr hnd hmem hx0 hr2 hr3 hS16
  go_enter Tryz.func34, Tryz.ntmps34
  go_upto_region 1 with (fail)
  rw [← hW0, ← hg3, ← hg2]
  clear hW0 hg2 hg3
  go_wp2_with fail
  refine HNM.out.mono ?_
  rintro e w1 ⟨NA, NC, ns, rfl, hns, hsl, hb1⟩
  have HNS := Lib.hid hns
  have HSLN := Lib.hid hsl
  have HB1 := Lib.hid hb1
  have HBW1 := Lib.hid (HB0.out.trans (hb1.mono HB0.out.size))
  have HSC := Lib.hid (ctSchemas_any w1 (HDU.out w1 HBW1.out) HND.out (by have := HL.out; omega) (fun p hp => by have := nameF_size (HMEM.out p hp).1; omega))
  obtain ⟨c2, c30, c31⟩ := HKP0.out w1 HB1.out
  have hz1 := HB1.out.size
  clear hns hsl hb1 HNM
  go_wp2_with fail
  refine HSC.out.mono ?_
  rintro e w2 ⟨LA, LC, ns', rfl, hns', hsm, hb2⟩
  obtain rfl := NamesOf.eq hns' HNS.out
  have HSM := Lib.hid hsm
  have HB2 := Lib.hid (HB1.out.trans (hb2.mono HB1.out.size))
  have HBW2 := Lib.hid (HB0.out.trans (HB2.out.mono HB0.out.size))
  have HSLN := Lib.hid (Sl.more (Sl.below HSLN.out hb2 (Nat.le_refl _)) hb2.size)
  have hnl : ns'.length ≤ 16 := by have h := hns'.1.length_eq; rw [List.length_map] at h; have := HL.out; omega
  have hz2 := HB2.out.size
  have HRW : Hid (∀ V, Below w2.heap.size w2 V → Calls Tryz.prog 38 #[.agg #[.map (some m)]] V fun e w' => e = .returned (.int .i64 (Fs.length : Nat)) ∧ Below V.heap.size V w') := fun V hb => by
    have h := ctRows_any V (HDU.out V (HBW2.out.trans (hb.mono HBW2.out.size))) HND.out (by have := HL.out; omega)
    rw [HROWS.out] at h
    exact h
  have HKP2 : Hid (∀ V, Below w2.heap.size w2 V → V.cell? ⟨g2, 0, none⟩ = some (.map (some m)) ∧ V.cell? ⟨g3, 0, none⟩ = some (.slice SA S.length SC) ∧ V.cell? ⟨g3, 1, none⟩ = some (.slice FA Fs.length FC)) := fun V hb => HKP0.out V (HB2.out.trans (hb.mono HB2.out.size))
  have hqq : ((ns'.length : Int) != (ns'.length : Int)) = false := by simp
  have hqf : ((Fs.length : Int) != (Fs.length : Int)) = false := by simp
  generalize ns' = ns at *
  clear hns' hsm hb2 HSC c2 c30 c31
  go_upto_region 3 with (fail)
  refine wp_region_held_drew (S := (fun w' => w'.cell? ⟨g2, 0, none⟩ = some (.map (some m)) ∧ w'.cell? ⟨g3, 0, none⟩ = some (.slice SA S.length SC) ∧ w'.cell? ⟨g3, 1, none⟩ = some (.slice FA Fs.length FC))) (by kernel_rfl) (HKP2.out w2.drew (Below.refl _ _).drew) (fun hHeld => ?_)
  refine takeOp (i := 0) (v := ?_) (some 19) rfl rfl (by kernel_rfl) (by kernel_rfl) (by kernel_rfl) (fun _ _ _ h => h) (Or.inl ⟨by rfl, ?_⟩) (by assumption) ?_
  rotate_left 1
  · (intro w0 hSw; (try dsimp only at hSw); go_simp; try (with_reducible rfl))
  try simp only [Act.put, List.setIfInBounds_toArray, List.set_cons_succ, List.set_cons_zero]
  refine takeOp (i := 1) (v := ?_) (some 20) rfl rfl (by kernel_rfl) (by kernel_rfl) (by kernel_rfl) (fun _ _ _ h => h) (Or.inl ⟨by rfl, ?_⟩) (by assumption) ?_
  rotate_left 1
  · (intro w0 hSw; (try dsimp only at hSw); go_simp; try (with_reducible rfl))
  try simp only [Act.put, List.setIfInBounds_toArray, List.set_cons_succ, List.set_cons_zero]
  refine takeOp (i := 2) (v := ?_) (some 21) rfl rfl (by kernel_rfl) (by kernel_rfl) (by kernel_rfl) (fun _ _ _ h => h) (Or.inl ⟨by rfl, ?_⟩) (by assumption) ?_
  rotate_left 1
  · (intro w0 hSw; (try dsimp only at hSw); go_simp; try (with_reducible rfl))
  try simp only [Act.put, List.setIfInBounds_toArray, List.set_cons_succ, List.set_cons_zero]
  refine takeOp (i := 3) (v := ?_) (some 22) rfl rfl (by kernel_rfl) (by kernel_rfl) (by kernel_rfl) (fun _ _ _ h => h) (Or.inl ⟨by rfl, ?_⟩) (by assumption) ?_
  rotate_left 1
  · (intro w0 hSw; (try dsimp only at hSw); go_simp; try (with_reducible rfl))
  try simp only [Act.put, List.setIfInBounds_toArray, List.set_cons_succ, List.set_cons_zero]
  refine takeOp (i := 4) (v := ?_) (some 23) rfl rfl (by kernel_rfl) (by kernel_rfl) (by kernel_rfl) (fun _ _ _ h => h) (Or.inl ⟨by rfl, ?_⟩) (by assumption) ?_
  rotate_left 1
  · (intro w0 hSw; (try dsimp only at hSw); go_simp; try (with_reducible rfl))
  try simp only [Act.put, List.setIfInBounds_toArray, List.set_cons_succ, List.set_cons_zero]
  refine takeOp (i := 5) (v := ?_) (some 24) rfl rfl (by kernel_rfl) (by kernel_rfl) (by kernel_rfl) (fun _ _ _ h => h) (Or.inl ⟨by rfl, ?_⟩) (by assumption) ?_
  rotate_left 1
  · (intro w0 hSw; (try dsimp only at hSw); go_simp; try (with_reducible rfl))
  try simp only [Act.put, List.setIfInBounds_toArray, List.set_cons_succ, List.set_cons_zero]
  refine takeOp (i := 6) (v := ?_) (some 25) rfl rfl (by kernel_rfl) (by kernel_rfl) (by kernel_rfl) (fun _ _ _ h => h) (Or.inl ⟨by rfl, ?_⟩) (by assumption) ?_
  rotate_left 1
  · (intro w0 hSw; (try dsimp only at hSw); go_simp; try (with_reducible rfl))
  try simp only [Act.put, List.setIfInBounds_toArray, List.set_cons_succ, List.set_cons_zero]
  refine takeOp (i := 8) (v := ?_) (some 27) rfl rfl (by kernel_rfl) (by kernel_rfl) (by kernel_rfl) (fun _ _ _ h => h) (Or.inl ⟨by rfl, ?_⟩) (by assumption) ?_
  rotate_left 1
  · (intro w0 hSw; (try dsimp only at hSw); go_simp; try (with_reducible rfl))
  try simp only [Act.put, List.setIfInBounds_toArray, List.set_cons_succ, List.set_cons_zero]
  refine takeOp (i := 9) (v := ?_) (some 28) rfl rfl (by kernel_rfl) (by kernel_rfl) (by kernel_rfl) (fun _ _ _ h => h) (Or.inl ⟨by rfl, ?_⟩) (by assumption) ?_
  rotate_left 1
  · (intro w0 hSw; (try dsimp only at hSw); go_simp; try (with_reducible rfl))
  try simp only [Act.put, List.setIfInBounds_toArray, List.set_cons_succ, List.set_cons_zero]
  refine takeOp (i := 10) (v := ?_) (some 29) rfl rfl (by kernel_rfl) (by kernel_rfl) (by kernel_rfl) (fun _ _ _ h => h) (Or.inl ⟨by rfl, ?_⟩) (by assumption) ?_
  rotate_left 1
  · (intro w0 hSw; (try dsimp only at hSw); go_simp; try (with_reducible rfl))
  try simp only [Act.put, List.setIfInBounds_toArray, List.set_cons_succ, List.set_cons_zero]
  refine wpAnyH_ready (rs := [7]) (by kernel_rfl) (by simp) ?_
  refine AllReadyH.cons rfl (fun K hK => ?_) AllReadyH.nil
  go_simp
  refine (HRW.out w2.drew (Below.refl _ _).drew).mono ?_
  rintro e w3 ⟨rfl, hb3⟩
  have HB3 : Hid (Below w2.heap.size w2 w3) := Below.undrew hb3
  clear hb3
  go_wp2_with fail
  refine hK.out _ _ (HKP2.out w3 HB3.out) (fun hHeld => ?_)
  clear hK K
  try simp only [Act.put, List.setIfInBounds_toArray, List.set_cons_succ, List.set_cons_zero]
  refine takeOp (i := 11) (v := ?_) (some 30) rfl rfl (by kernel_rfl) (by kernel_rfl) (by kernel_rfl) (fun _ _ _ h => h) (Or.inl ⟨by rfl, ?_⟩) (by assumption) ?_
  rotate_left 1
  · (intro w0 hSw; (try dsimp only at hSw); go_simp; try (with_reducible rfl))
  try simp only [Act.put, List.setIfInBounds_toArray, List.set_cons_succ, List.set_cons_zero]
  refine takeOp (i := 12) (v := ?_) (some 31) rfl rfl (by kernel_rfl) (by kernel_rfl) (by kernel_rfl) (fun _ _ _ h => h) (Or.inl ⟨by rfl, ?_⟩) (by assumption) ?_
  rotate_left 1
  · (intro w0 hSw; (try dsimp only at hSw); go_simp; try (with_reducible rfl))
  try simp only [Act.put, List.setIfInBounds_toArray, List.set_cons_succ, List.set_cons_zero]
  refine wpAnyH_done (by kernel_rfl) ?_ _
  have HBW3 := Lib.hid (HBW2.out.trans (HB3.out.mono HBW2.out.size))
  have HSLN3 := Lib.hid (Sl.below HSLN.out HB3.out (Nat.le_refl _))
  have HSM3 := Lib.hid (SchsM.up HSM.out HB3.out)
  have hz3 := HB3.out.size
  have HKP3 : Hid (∀ V, Below w3.heap.size w3 V → V.cell? ⟨g2, 0, none⟩ = some (.map (some m)) ∧ V.cell? ⟨g3, 0, none⟩ = some (.slice SA S.length SC) ∧ V.cell? ⟨g3, 1, none⟩ = some (.slice FA Fs.length FC)) := fun V hb => HKP2.out V (HB3.out.trans (hb.mono HB3.out.size))
  clear HRW hqf
  go_wp2_with fail
  go_loopw [7] (fun c wx => ∃ i : Nat, i ≤ ns.length ∧ c = .int .i64 i ∧ Below w3.heap.size w3 wx) (fun c _ => ns.length - (intOf c).toNat)
  case atStart => exact ⟨0, Nat.zero_le _, rfl, Below.refl _ _⟩
  case round =>
    obtain ⟨i, hi, rfl, hbr⟩ := hrel
    have HBR := Lib.hid hbr
    have hzr := hbr.size
    clear hbr
    by_cases hil : i < ns.length
    rotate_left
    · obtain rfl : i = ns.length := by omega
      have r1 : ¬ (ns.length : Int) < (ns.length : Int) := by omega
      have HBE := Lib.hid (HBW3.out.trans (HBR.out.mono HBW3.out.size))
      clear hil
      go_wp2_with fail
      go_ret
      exact ⟨rfl, HBE.out⟩
    obtain ⟨wo, hwo⟩ : ∃ wo, wo = wr := ⟨_, rfl⟩
    subst hwo
    have HBWO := Lib.hid (HBW3.out.trans (HBR.out.mono HBW3.out.size))
    obtain ⟨nb, no, rfl, hnb, n0⟩ := HSLN3.out.at_ (k := i) (by rw [List.length_map]; exact hil)
    rw [List.getElem_map] at n0
    obtain ⟨lb, lo, rfl, hlb, hlc⟩ := HSM3.out (by intro h0; have h := schsF_len S ns; rw [h0] at h; simp at h; omega)
    obtain ⟨LKA, LKC, l0, l1, hlk⟩ := hlc i (by rw [schsF_len]; exact hil)
    have hat : (schsF S ns)[i]'(by rw [schsF_len]; exact hil) = (ns[i], kindsF S ns[i]) := by unfold schsF; rw [List.getElem_map]
    rw [hat] at l0 l1 hlk
    have HIN : Hid (ns[i] ∈ S.map Prod.fst) := HNS.out.1.mem_iff.1 (List.getElem_mem hil)
    have HKM := Lib.hid (kindsF_mem HIN.out)
    obtain ⟨ks, hks⟩ : ∃ ks, ks = kindsF S ns[i] := ⟨_, rfl⟩
    have l0 : w3.cell? ⟨lb, lo + i * 2, none⟩ = some (.string ns[i]) := l0
    have l1 : w3.cell? ⟨lb, lo + i * 2 + 1, none⟩ = some (.slice LKA (kindsF S ns[i]).length LKC) := l1
    have HLK : Hid (SlI .i64 w3.heap.size w3 LKA (kindsF S ns[i])) := hlk
    generalize ns[i] = nm at *
    have HKS : Hid (ks = kindsF S nm) := hks
    rw [← hks] at l1 HLK HKM
    have HSZ : Hid (nm.size ≤ 16) := nameF_size (HMEM.out _ HKM.out).1
    have HKL : Hid (ks.length ≤ 6) := (HMEM.out _ HKM.out).2.1
    have HKW : Hid (∀ V, Below wo.heap.size wo V → Below w3.heap.size w3 V) := fun V hb => HBR.out.trans (hb.mono hzr)
    have HKPO : Hid (∀ V, Below wo.heap.size wo V → V.cell? ⟨g2, 0, none⟩ = some (.map (some m)) ∧ V.cell? ⟨g3, 0, none⟩ = some (.slice SA S.length SC) ∧ V.cell? ⟨g3, 1, none⟩ = some (.slice FA Fs.length FC) ∧ V.cell? ⟨nb, no + i, none⟩ = some (.string nm) ∧ V.cell? ⟨lb, lo + i * 2, none⟩ = some (.string nm) ∧ V.cell? ⟨lb, lo + i * 2 + 1, none⟩ = some (.slice LKA ks.length LKC)) := fun V hb => by
      have hb3 := HKW.out V hb
      obtain ⟨a, b, c⟩ := HKP3.out V hb3
      exact ⟨a, b, c, cell_below hb3 n0, cell_below hb3 l0, cell_below hb3 l1⟩
    have HSCH : Hid (∀ V, Below wo.heap.size wo V → Calls Tryz.prog 25 #[.agg #[.map (some m)], .string nm] V fun e V' => ∃ KA KC, e = .returned (.tuple #[.agg #[.string nm, .slice KA ks.length KC], .bool true]) ∧ SlIP (fun c => V.heap.size ≤ c) V' KA ks ∧ Below V.heap.size V V') := fun V hb => by
      refine (ctSchema_any nm (by have := HSZ.out; omega) V (HDU.out V (HBWO.out.trans (hb.mono HBWO.out.size))) HND.out).mono ?_
      rintro e V' ⟨h1, -, h3⟩
      obtain ⟨KA, KC, he, hk⟩ := h1 ks HKM.out
      exact ⟨KA, KC, he, hk, h3⟩
    have HRLT : Hid (∀ V, Below wo.heap.size wo V → Calls Tryz.prog 23 #[.agg #[.map (some m)], .string nm] V fun e V' => ∃ A C, e = .returned (.tuple #[.agg #[.int .i64 (ks.length : Nat), .slice A (F nm).length C], .bool true]) ∧ SlRsP (fun b => b < w.heap.size) w.heap.size w A (F nm) ∧ Below V.heap.size V V') := fun V hb => by
      have hbw := HBWO.out.trans (hb.mono HBWO.out.size)
      refine (ctRelation_any nm (by have := HSZ.out; omega) V (HDU.out V hbw) HND.out).mono ?_
      rintro e V' ⟨h1, -, h3⟩
      obtain ⟨A, C, he, -, -, hk, -⟩ := h1 ks HKM.out
      have hbv := hbw.trans (h3.mono hbw.size)
      exact ⟨A, C, he, (hk.shrink fun _ h => h).keep fun p hp _ => (hbv.cell hp).symm, h3⟩
    have HROK : Hid (RowsOk ks.length (F nm)) := by
      obtain ⟨b, D, -, -, -, -, -, h5⟩ := HD.out
      obtain ⟨val, -, KA, KC, A, C, -, -, -, -, -, -, h⟩ := h5 _ HKM.out
      exact h
    clear hat hks hlk hlc n0 l0 l1
    obtain ⟨X, hX⟩ : ∃ X, X = F nm := ⟨_, rfl⟩
    have HXF : Hid (X = F nm) := hX
    rw [← hX] at HRLT HROK
    clear hX
    have g1 : (0 : Int) ≤ (i : Int) := by omega
    have g4 : (i : Int) < (ns.length : Int) := by omega
    have hw1 : IntKind.i64.wrap ((i : Int) + 1) = ((i + 1 : Nat) : Int) := by rw [IntWalk.i64_in _ (by omega)]; omega
    have g2w : g2 < wo.heap.size := by omega
    have g3w : g3 < wo.heap.size := by omega
    have nbw : nb < wo.heap.size := by omega
    have lbw : lb < wo.heap.size := by omega
    go_upto_region 8 with (fail)
    go_cut [8, 9] from 38 to 47 (fun q1 q2 wx => ∃ (g : Nat) (KA : Option Addr) (KC : Nat), q1 = .pointer (some ⟨g, 0, none⟩) ∧ q2 = .bool true ∧ wo.heap.size ≤ g ∧ Row wx g 62 [.string nm, .slice KA ks.length KC] ∧ SlIP (fun _ => True) wx KA ks ∧ Below wo.heap.size wo wx)
    case first =>
      have HKPA : Hid (∀ V, Below wo.heap.size wo V → V.cell? ⟨g2, 0, none⟩ = some (.map (some m)) ∧ V.cell? ⟨nb, no + i, none⟩ = some (.string nm)) := fun V hb => ⟨(HKPO.out V hb).1, (HKPO.out V hb).2.2.2.1⟩
      refine wp_region_held_drew (S := (fun w' => w'.cell? ⟨g2, 0, none⟩ = some (.map (some m)) ∧ w'.cell? ⟨nb, no + i, none⟩ = some (.string nm))) (by kernel_rfl) (HKPA.out wo.drew (Below.refl _ _).drew) (fun hHeld => ?_)
      obtain ⟨V0, hV0⟩ : ∃ V, V = wo.drew := ⟨_, rfl⟩
      have HV : Hid (Below wo.heap.size wo V0) := by show Below _ _ _; rw [hV0]; exact (Below.refl _ _).drew
      rw [← hV0] at hHeld ⊢
      clear hV0
      refine takeOp (i := 0) (v := ?_) (some 39) rfl rfl (by kernel_rfl) (by kernel_rfl) (by kernel_rfl) (fun _ _ _ h => h) (Or.inl ⟨by rfl, ?_⟩) (by assumption) ?_
      rotate_left 1
      · (intro w0 hSw; (try dsimp only at hSw); go_simp; try (with_reducible rfl))
      try simp only [Act.put, List.setIfInBounds_toArray, List.set_cons_succ, List.set_cons_zero]
      refine takeOp (i := 1) (v := ?_) (some 40) rfl rfl (by kernel_rfl) (by kernel_rfl) (by kernel_rfl) (fun _ _ _ h => h) (Or.inl ⟨by rfl, ?_⟩) (by assumption) ?_
      rotate_left 1
      · (intro w0 hSw; (try dsimp only at hSw); go_simp; try (with_reducible rfl))
      try simp only [Act.put, List.setIfInBounds_toArray, List.set_cons_succ, List.set_cons_zero]
      refine takeOp (i := 2) (v := ?_) (some 41) rfl rfl (by kernel_rfl) (by kernel_rfl) (by kernel_rfl) (fun _ _ _ h => h) (Or.inl ⟨by rfl, ?_⟩) (by assumption) ?_
      rotate_left 1
      · (intro w0 hSw; (try dsimp only at hSw); go_simp; try (with_reducible rfl))
      try simp only [Act.put, List.setIfInBounds_toArray, List.set_cons_succ, List.set_cons_zero]
      refine takeOp (i := 3) (v := ?_) (some 42) rfl rfl (by kernel_rfl) (by kernel_rfl) (by kernel_rfl) (fun _ _ _ h => h) (Or.inl ⟨by rfl, ?_⟩) (by assumption) ?_
      rotate_left 1
      · (intro w0 hSw; (try dsimp only at hSw); go_simp; try (with_reducible rfl))
      try simp only [Act.put, List.setIfInBounds_toArray, List.set_cons_succ, List.set_cons_zero]
      refine takeOp (i := 4) (v := ?_) (some 43) rfl rfl (by kernel_rfl) (by kernel_rfl) (by kernel_rfl) (fun _ _ _ h => h) (Or.inl ⟨by rfl, ?_⟩) (by assumption) ?_
      rotate_left 1
      · (intro w0 hSw; (try dsimp only at hSw); go_simp; try (with_reducible rfl))
      try simp only [Act.put, List.setIfInBounds_toArray, List.set_cons_succ, List.set_cons_zero]
      refine wpAnyH_ready (rs := [5, 9]) (by kernel_rfl) (by simp) ?_
      refine (AllReadyH.cons rfl (fun K hK => ?_) (AllReadyH.cons rfl (fun K hK => ?_) AllReadyH.nil))
      · go_simp
        refine (HSCH.out V0 HV.out).mono ?_
        rintro e V1 ⟨KA, KC, rfl, hk, hb⟩
        have HKX : Hid (SlIP (fun _ => True) V1 KA ks) := hk.weak fun _ _ _ => trivial
        clear hk
        have HWIN : Hid (WinP V0.heap.size V1 V1) := WinP.refl _ _
        have HV := Lib.hid (Below.then HV.out hb HV.out.size)
        clear hb
        go_wp2_with fail
        refine hK.out _ _ (HKPA.out V1 HV.out) (fun hHeld => ?_)
        clear hK K
        try simp only [Act.put, List.setIfInBounds_toArray, List.set_cons_succ, List.set_cons_zero]
        refine takeOp (i := 6) (v := ?_) (some 38) rfl rfl (by kernel_rfl) (by kernel_rfl) (by kernel_rfl) (fun _ _ _ h => h) (Or.inl ⟨by rfl, ?_⟩) (by assumption) ?_
        rotate_left 1
        · (intro w0 hSw; (try dsimp only at hSw); go_simp; try (with_reducible rfl))
        try simp only [Act.put, List.setIfInBounds_toArray, List.set_cons_succ, List.set_cons_zero]
        refine takeOp (i := 7) (v := ?_) (some 45) rfl rfl (by kernel_rfl) (by kernel_rfl) (by kernel_rfl) (fun _ _ _ h => h) (Or.inl ⟨by rfl, ?_⟩) (by assumption) ?_
        rotate_left 1
        · (intro w0 hSw; (try dsimp only at hSw); go_simp; try (with_reducible rfl))
        try simp only [Act.put, List.setIfInBounds_toArray, List.set_cons_succ, List.set_cons_zero]
        refine takeOp (i := 8) (v := ?_) (some 46) rfl rfl (by kernel_rfl) (by kernel_rfl) (by kernel_rfl) (fun _ _ _ h => h) (Or.inl ⟨by rfl, ?_⟩) (by assumption) ?_
        rotate_left 1
        · (intro w0 hSw; (try dsimp only at hSw); go_simp; try (with_reducible rfl))
        try simp only [Act.put, List.setIfInBounds_toArray, List.set_cons_succ, List.set_cons_zero]
        refine wpAnyH_ready (rs := [9]) (by kernel_rfl) (by simp) ?_
        refine (AllReadyH.cons rfl (fun K hK => ?_) AllReadyH.nil)
        go_simp
        obtain ⟨V2, hV⟩ : ∃ V', V' = V1.alloc (.cells #[.string ⟨#[]⟩, .slice none 0 0] 62) := ⟨_, rfl⟩
        rw [← hV]
        have hb : Below V1.heap.size V1 V2 := by rw [hV]; exact ((Ext.refl V1).alloc _).below
        obtain ⟨gb, hgb⟩ : ∃ gb, gb = V1.heap.size := ⟨_, rfl⟩
        have HG : Hid (Row V2 gb 62 [.string ⟨#[]⟩, .slice none 0 0]) := by show Row _ _ _ _; rw [hV, hgb]; exact Row.new V1 _ _
        have HGZ : Hid (wo.heap.size ≤ gb) := by show _ ≤ _; rw [hgb]; exact HV.out.size
        have HGW0 : Hid (gb < V2.heap.size) := HG.out.lt
        have HWIN : Hid (WinP V0.heap.size V1 V2) := HWIN.out.up hb
        have HOUT : Hid (V1.heap.size ≤ gb) := by show _ ≤ _; rw [hgb]; exact Nat.le_refl _
        have HKX : Hid (SlIP (fun c => c ≠ gb) V2 KA ks) := (HKX.out.weak fun c hc _ => by show c ≠ gb; omega).keep (Stay.of hb)
        have HV := Lib.hid (Below.then HV.out hb HV.out.size)
        rw [← hgb]
        clear hb hV hgb
        refine hK.out _ _ (HKPA.out V2 HV.out) (fun hHeld => ?_)
        clear hK K
        try simp only [Act.put, List.setIfInBounds_toArray, List.set_cons_succ, List.set_cons_zero]
        refine wpAnyH_ready (rs := [10]) (by kernel_rfl) (by simp) ?_
        refine (AllReadyH.cons rfl (fun K hK => ?_) AllReadyH.nil)
        have m0 := HG.out.frozen 0
        have n0 : V2.cell? ⟨gb, 0, none⟩ = some (.string ⟨#[]⟩) := HG.out.cell 0
        have m1 := HG.out.frozen 1
        have n1 : V2.cell? ⟨gb, 1, none⟩ = some (.slice none 0 0) := HG.out.cell 1
        have m9 := HG.out.lt
        go_simp
        go_wp2_with fail
        obtain ⟨V3, hV⟩ : ∃ V', V' = ((V2.setCell ⟨gb, 0, none⟩ (.string nm)).setCell ⟨gb, 1, none⟩ (.slice KA ks.length KC)) := ⟨_, rfl⟩
        rw [← hV]
        have HG : Hid (Row V3 gb 62 [.string nm, .slice KA ks.length KC]) := by show Row _ _ _ _; rw [hV]; exact ((HG.out.set 0 _).set 1 _)
        have HWIN : Hid (WinP V0.heap.size V1 V3) := by show WinP _ _ _; rw [hV]; exact ((HWIN.out.set (Or.inr HOUT.out) 0 _).set (Or.inr HOUT.out) 1 _)
        have HKX : Hid (SlIP (fun c => c ≠ gb) V3 KA ks) := by show SlIP _ _ _ _; rw [hV]; exact (HKX.out.keep (Stay.set (fun h => h rfl) 0 _)).keep (Stay.set (fun h => h rfl) 1 _)
        have HV : Hid (Below wo.heap.size wo V3) := by show Below _ _ _; rw [hV]; exact ((HV.out.setCell (by show wo.heap.size ≤ gb; exact HGZ.out) _).setCell (by show wo.heap.size ≤ gb; exact HGZ.out) _)
        clear hV m9 m0 n0 m1 n1
        refine hK.out _ _ (HKPA.out V3 HV.out) (fun hHeld => ?_)
        clear hK K
        try simp only [Act.put, List.setIfInBounds_toArray, List.set_cons_succ, List.set_cons_zero]
        refine takeOp (i := 11) (v := ?_) (some 9) rfl rfl (by kernel_rfl) (by kernel_rfl) (by kernel_rfl) (fun _ _ _ h => h) (Or.inl ⟨by rfl, ?_⟩) (by assumption) ?_
        rotate_left 1
        · (intro w0 hSw; (try dsimp only at hSw); go_simp; try (with_reducible rfl))
        try simp only [Act.put, List.setIfInBounds_toArray, List.set_cons_succ, List.set_cons_zero]
        refine wpAnyH_done (by kernel_rfl) ?_ _
        go_wp2_with fail
        go_meet
        case rel => exact ⟨gb, KA, KC, rfl, rfl, HGZ.out, HG.out, HKX.out.weak fun _ _ _ => trivial, HV.out⟩
      · go_simp
        obtain ⟨V1, hV⟩ : ∃ V', V' = V0.alloc (.cells #[.string ⟨#[]⟩, .slice none 0 0] 62) := ⟨_, rfl⟩
        rw [← hV]
        have hb : Below V0.heap.size V0 V1 := by rw [hV]; exact ((Ext.refl V0).alloc _).below
        obtain ⟨gb, hgb⟩ : ∃ gb, gb = V0.heap.size := ⟨_, rfl⟩
        have HG : Hid (Row V1 gb 62 [.string ⟨#[]⟩, .slice none 0 0]) := by show Row _ _ _ _; rw [hV, hgb]; exact Row.new V0 _ _
        have HGZ : Hid (wo.heap.size ≤ gb) := by show _ ≤ _; rw [hgb]; exact HV.out.size
        have HGW0 : Hid (gb < V1.heap.size) := HG.out.lt
        have HV := Lib.hid (Below.then HV.out hb HV.out.size)
        rw [← hgb]
        clear hb hV hgb
        refine hK.out _ _ (HKPA.out V1 HV.out) (fun hHeld => ?_)
        clear hK K
        try simp only [Act.put, List.setIfInBounds_toArray, List.set_cons_succ, List.set_cons_zero]
        refine wpAnyH_ready (rs := [5]) (by kernel_rfl) (by simp) ?_
        refine (AllReadyH.cons rfl (fun K hK => ?_) AllReadyH.nil)
        go_simp
        refine (HSCH.out V1 HV.out).mono ?_
        rintro e V2 ⟨KA, KC, rfl, hk, hb⟩
        have HKX : Hid (SlIP (fun c => c ≠ gb) V2 KA ks) := hk.weak fun c _ hc => by have h1 : V1.heap.size ≤ c := hc; have := HGW0.out; show c ≠ gb; omega
        clear hk
        have HG := Lib.hid (HG.out.up hb)
        have HGW : Hid (gb < V1.heap.size) := by show gb < _; have := HGW0.out; omega
        have HWIN : Hid (WinP V1.heap.size V2 V2) := WinP.refl _ _
        have HV := Lib.hid (Below.then HV.out hb HV.out.size)
        clear hb
        go_wp2_with fail
        refine hK.out _ _ (HKPA.out V2 HV.out) (fun hHeld => ?_)
        clear hK K
        try simp only [Act.put, List.setIfInBounds_toArray, List.set_cons_succ, List.set_cons_zero]
        refine takeOp (i := 6) (v := ?_) (some 38) rfl rfl (by kernel_rfl) (by kernel_rfl) (by kernel_rfl) (fun _ _ _ h => h) (Or.inl ⟨by rfl, ?_⟩) (by assumption) ?_
        rotate_left 1
        · (intro w0 hSw; (try dsimp only at hSw); go_simp; try (with_reducible rfl))
        try simp only [Act.put, List.setIfInBounds_toArray, List.set_cons_succ, List.set_cons_zero]
        refine takeOp (i := 7) (v := ?_) (some 45) rfl rfl (by kernel_rfl) (by kernel_rfl) (by kernel_rfl) (fun _ _ _ h => h) (Or.inl ⟨by rfl, ?_⟩) (by assumption) ?_
        rotate_left 1
        · (intro w0 hSw; (try dsimp only at hSw); go_simp; try (with_reducible rfl))
        try simp only [Act.put, List.setIfInBounds_toArray, List.set_cons_succ, List.set_cons_zero]
        refine takeOp (i := 8) (v := ?_) (some 46) rfl rfl (by kernel_rfl) (by kernel_rfl) (by kernel_rfl) (fun _ _ _ h => h) (Or.inl ⟨by rfl, ?_⟩) (by assumption) ?_
        rotate_left 1
        · (intro w0 hSw; (try dsimp only at hSw); go_simp; try (with_reducible rfl))
        try simp only [Act.put, List.setIfInBounds_toArray, List.set_cons_succ, List.set_cons_zero]
        refine wpAnyH_ready (rs := [10]) (by kernel_rfl) (by simp) ?_
        refine (AllReadyH.cons rfl (fun K hK => ?_) AllReadyH.nil)
        have m0 := HG.out.frozen 0
        have n0 : V2.cell? ⟨gb, 0, none⟩ = some (.string ⟨#[]⟩) := HG.out.cell 0
        have m1 := HG.out.frozen 1
        have n1 : V2.cell? ⟨gb, 1, none⟩ = some (.slice none 0 0) := HG.out.cell 1
        have m9 := HG.out.lt
        go_simp
        go_wp2_with fail
        obtain ⟨V3, hV⟩ : ∃ V', V' = ((V2.setCell ⟨gb, 0, none⟩ (.string nm)).setCell ⟨gb, 1, none⟩ (.slice KA ks.length KC)) := ⟨_, rfl⟩
        rw [← hV]
        have HG : Hid (Row V3 gb 62 [.string nm, .slice KA ks.length KC]) := by show Row _ _ _ _; rw [hV]; exact ((HG.out.set 0 _).set 1 _)
        have HWIN : Hid (WinP V1.heap.size V2 V3) := by show WinP _ _ _; rw [hV]; exact ((HWIN.out.set (Or.inl HGW.out) 0 _).set (Or.inl HGW.out) 1 _)
        have HKX : Hid (SlIP (fun c => c ≠ gb) V3 KA ks) := by show SlIP _ _ _ _; rw [hV]; exact (HKX.out.keep (Stay.set (fun h => h rfl) 0 _)).keep (Stay.set (fun h => h rfl) 1 _)
        have HV : Hid (Below wo.heap.size wo V3) := by show Below _ _ _; rw [hV]; exact ((HV.out.setCell (by show wo.heap.size ≤ gb; exact HGZ.out) _).setCell (by show wo.heap.size ≤ gb; exact HGZ.out) _)
        clear hV m9 m0 n0 m1 n1
        refine hK.out _ _ (HKPA.out V3 HV.out) (fun hHeld => ?_)
        clear hK K
        try simp only [Act.put, List.setIfInBounds_toArray, List.set_cons_succ, List.set_cons_zero]
        refine takeOp (i := 11) (v := ?_) (some 9) rfl rfl (by kernel_rfl) (by kernel_rfl) (by kernel_rfl) (fun _ _ _ h => h) (Or.inl ⟨by rfl, ?_⟩) (by assumption) ?_
        rotate_left 1
        · (intro w0 hSw; (try dsimp only at hSw); go_simp; try (with_reducible rfl))
        try simp only [Act.put, List.setIfInBounds_toArray, List.set_cons_succ, List.set_cons_zero]
        refine wpAnyH_done (by kernel_rfl) ?_ _
        go_wp2_with fail
        go_meet
        case rel => exact ⟨gb, KA, KC, rfl, rfl, HGZ.out, HG.out, HKX.out.weak fun _ _ _ => trivial, HV.out⟩
    case rest =>
    obtain ⟨g8, KA, KC, rfl, rfl, hg8, hr8, hka, hb8⟩ := hcut
    generalize wc = w8 at *
    have HR8 := Lib.hid hr8
    have HKA := Lib.hid hka
    have HB8 := Lib.hid hb8
    have hz8 := hb8.size
    have HKP8 : Hid (∀ V, Below w8.heap.size w8 V → V.cell? ⟨g2, 0, none⟩ = some (.map (some m)) ∧ V.cell? ⟨nb, no + i, none⟩ = some (.string nm)) := fun V hb => by
      obtain ⟨a, -, -, d, -, -⟩ := HKPO.out V (HB8.out.trans (hb.mono hz8))
      exact ⟨a, d⟩
    have HRL8 : Hid (∀ V, Below w8.heap.size w8 V → Calls Tryz.prog 23 #[.agg #[.map (some m)], .string nm] V fun e V' => ∃ A C, e = .returned (.tuple #[.agg #[.int .i64 (ks.length : Nat), .slice A X.length C], .bool true]) ∧ SlRsP (fun b => b < w.heap.size) w.heap.size w A X ∧ Below V.heap.size V V') := fun V hb => HRLT.out V (HB8.out.trans (hb.mono hz8))
    clear hr8 hka hb8 HSCH HRLT
    go_upto_region 9 with (fail)
    go_cut [10, 11] from 47 to 56 (fun q1 q2 wx => ∃ (g : Nat) (A : Option Addr) (C : Nat), q1 = .pointer (some ⟨g, 0, none⟩) ∧ q2 = .bool true ∧ w8.heap.size ≤ g ∧ Row wx g 56 [.int .i64 (ks.length : Nat), .slice A X.length C] ∧ SlRsP (fun b => b < w.heap.size) w.heap.size w A X ∧ Below w8.heap.size w8 wx)
    case first =>
      refine wp_region_held_drew (S := (fun w' => w'.cell? ⟨g2, 0, none⟩ = some (.map (some m)) ∧ w'.cell? ⟨nb, no + i, none⟩ = some (.string nm))) (by kernel_rfl) (HKP8.out w8.drew (Below.refl _ _).drew) (fun hHeld => ?_)
      obtain ⟨V0, hV0⟩ : ∃ V, V = w8.drew := ⟨_, rfl⟩
      have HV : Hid (Below w8.heap.size w8 V0) := by show Below _ _ _; rw [hV0]; exact (Below.refl _ _).drew
      rw [← hV0] at hHeld ⊢
      clear hV0
      refine takeOp (i := 0) (v := ?_) (some 48) rfl rfl (by kernel_rfl) (by kernel_rfl) (by kernel_rfl) (fun _ _ _ h => h) (Or.inl ⟨by rfl, ?_⟩) (by assumption) ?_
      rotate_left 1
      · (intro w0 hSw; (try dsimp only at hSw); go_simp; try (with_reducible rfl))
      try simp only [Act.put, List.setIfInBounds_toArray, List.set_cons_succ, List.set_cons_zero]
      refine takeOp (i := 1) (v := ?_) (some 49) rfl rfl (by kernel_rfl) (by kernel_rfl) (by kernel_rfl) (fun _ _ _ h => h) (Or.inl ⟨by rfl, ?_⟩) (by assumption) ?_
      rotate_left 1
      · (intro w0 hSw; (try dsimp only at hSw); go_simp; try (with_reducible rfl))
      try simp only [Act.put, List.setIfInBounds_toArray, List.set_cons_succ, List.set_cons_zero]
      refine takeOp (i := 2) (v := ?_) (some 50) rfl rfl (by kernel_rfl) (by kernel_rfl) (by kernel_rfl) (fun _ _ _ h => h) (Or.inl ⟨by rfl, ?_⟩) (by assumption) ?_
      rotate_left 1
      · (intro w0 hSw; (try dsimp only at hSw); go_simp; try (with_reducible rfl))
      try simp only [Act.put, List.setIfInBounds_toArray, List.set_cons_succ, List.set_cons_zero]
      refine takeOp (i := 3) (v := ?_) (some 51) rfl rfl (by kernel_rfl) (by kernel_rfl) (by kernel_rfl) (fun _ _ _ h => h) (Or.inl ⟨by rfl, ?_⟩) (by assumption) ?_
      rotate_left 1
      · (intro w0 hSw; (try dsimp only at hSw); go_simp; try (with_reducible rfl))
      try simp only [Act.put, List.setIfInBounds_toArray, List.set_cons_succ, List.set_cons_zero]
      refine takeOp (i := 4) (v := ?_) (some 52) rfl rfl (by kernel_rfl) (by kernel_rfl) (by kernel_rfl) (fun _ _ _ h => h) (Or.inl ⟨by rfl, ?_⟩) (by assumption) ?_
      rotate_left 1
      · (intro w0 hSw; (try dsimp only at hSw); go_simp; try (with_reducible rfl))
      try simp only [Act.put, List.setIfInBounds_toArray, List.set_cons_succ, List.set_cons_zero]
      refine wpAnyH_ready (rs := [5, 9]) (by kernel_rfl) (by simp) ?_
      refine (AllReadyH.cons rfl (fun K hK => ?_) (AllReadyH.cons rfl (fun K hK => ?_) AllReadyH.nil))
      · go_simp
        refine (HRL8.out V0 HV.out).mono ?_
        rintro e V1 ⟨RA, RC, rfl, hra, hb⟩
        have HRA := Lib.hid hra
        clear hra
        have HWIN : Hid (WinP V0.heap.size V1 V1) := WinP.refl _ _
        have HV := Lib.hid (Below.then HV.out hb HV.out.size)
        clear hb
        go_wp2_with fail
        refine hK.out _ _ (HKP8.out V1 HV.out) (fun hHeld => ?_)
        clear hK K
        try simp only [Act.put, List.setIfInBounds_toArray, List.set_cons_succ, List.set_cons_zero]
        refine takeOp (i := 6) (v := ?_) (some 47) rfl rfl (by kernel_rfl) (by kernel_rfl) (by kernel_rfl) (fun _ _ _ h => h) (Or.inl ⟨by rfl, ?_⟩) (by assumption) ?_
        rotate_left 1
        · (intro w0 hSw; (try dsimp only at hSw); go_simp; try (with_reducible rfl))
        try simp only [Act.put, List.setIfInBounds_toArray, List.set_cons_succ, List.set_cons_zero]
        refine takeOp (i := 7) (v := ?_) (some 54) rfl rfl (by kernel_rfl) (by kernel_rfl) (by kernel_rfl) (fun _ _ _ h => h) (Or.inl ⟨by rfl, ?_⟩) (by assumption) ?_
        rotate_left 1
        · (intro w0 hSw; (try dsimp only at hSw); go_simp; try (with_reducible rfl))
        try simp only [Act.put, List.setIfInBounds_toArray, List.set_cons_succ, List.set_cons_zero]
        refine takeOp (i := 8) (v := ?_) (some 55) rfl rfl (by kernel_rfl) (by kernel_rfl) (by kernel_rfl) (fun _ _ _ h => h) (Or.inl ⟨by rfl, ?_⟩) (by assumption) ?_
        rotate_left 1
        · (intro w0 hSw; (try dsimp only at hSw); go_simp; try (with_reducible rfl))
        try simp only [Act.put, List.setIfInBounds_toArray, List.set_cons_succ, List.set_cons_zero]
        refine wpAnyH_ready (rs := [9]) (by kernel_rfl) (by simp) ?_
        refine (AllReadyH.cons rfl (fun K hK => ?_) AllReadyH.nil)
        go_simp
        obtain ⟨V2, hV⟩ : ∃ V', V' = V1.alloc (.cells #[.int .i64 0, .slice none 0 0] 56) := ⟨_, rfl⟩
        rw [← hV]
        have hb : Below V1.heap.size V1 V2 := by rw [hV]; exact ((Ext.refl V1).alloc _).below
        obtain ⟨gb, hgb⟩ : ∃ gb, gb = V1.heap.size := ⟨_, rfl⟩
        have HG : Hid (Row V2 gb 56 [.int .i64 0, .slice none 0 0]) := by show Row _ _ _ _; rw [hV, hgb]; exact Row.new V1 _ _
        have HGZ : Hid (w8.heap.size ≤ gb) := by show _ ≤ _; rw [hgb]; exact HV.out.size
        have HGW0 : Hid (gb < V2.heap.size) := HG.out.lt
        have HWIN : Hid (WinP V0.heap.size V1 V2) := HWIN.out.up hb
        have HOUT : Hid (V1.heap.size ≤ gb) := by show _ ≤ _; rw [hgb]; exact Nat.le_refl _
        have HV := Lib.hid (Below.then HV.out hb HV.out.size)
        rw [← hgb]
        clear hb hV hgb
        refine hK.out _ _ (HKP8.out V2 HV.out) (fun hHeld => ?_)
        clear hK K
        try simp only [Act.put, List.setIfInBounds_toArray, List.set_cons_succ, List.set_cons_zero]
        refine wpAnyH_ready (rs := [10]) (by kernel_rfl) (by simp) ?_
        refine (AllReadyH.cons rfl (fun K hK => ?_) AllReadyH.nil)
        have m0 := HG.out.frozen 0
        have n0 : V2.cell? ⟨gb, 0, none⟩ = some (.int .i64 0) := HG.out.cell 0
        have m1 := HG.out.frozen 1
        have n1 : V2.cell? ⟨gb, 1, none⟩ = some (.slice none 0 0) := HG.out.cell 1
        have m9 := HG.out.lt
        go_simp
        go_wp2_with fail
        obtain ⟨V3, hV⟩ : ∃ V', V' = ((V2.setCell ⟨gb, 0, none⟩ (.int .i64 (ks.length : Nat))).setCell ⟨gb, 1, none⟩ (.slice RA X.length RC)) := ⟨_, rfl⟩
        rw [← hV]
        have HG : Hid (Row V3 gb 56 [.int .i64 (ks.length : Nat), .slice RA X.length RC]) := by show Row _ _ _ _; rw [hV]; exact ((HG.out.set 0 _).set 1 _)
        have HWIN : Hid (WinP V0.heap.size V1 V3) := by show WinP _ _ _; rw [hV]; exact ((HWIN.out.set (Or.inr HOUT.out) 0 _).set (Or.inr HOUT.out) 1 _)
        have HV : Hid (Below w8.heap.size w8 V3) := by show Below _ _ _; rw [hV]; exact ((HV.out.setCell (by show w8.heap.size ≤ gb; exact HGZ.out) _).setCell (by show w8.heap.size ≤ gb; exact HGZ.out) _)
        clear hV m9 m0 n0 m1 n1
        refine hK.out _ _ (HKP8.out V3 HV.out) (fun hHeld => ?_)
        clear hK K
        try simp only [Act.put, List.setIfInBounds_toArray, List.set_cons_succ, List.set_cons_zero]
        refine takeOp (i := 11) (v := ?_) (some 11) rfl rfl (by kernel_rfl) (by kernel_rfl) (by kernel_rfl) (fun _ _ _ h => h) (Or.inl ⟨by rfl, ?_⟩) (by assumption) ?_
        rotate_left 1
        · (intro w0 hSw; (try dsimp only at hSw); go_simp; try (with_reducible rfl))
        try simp only [Act.put, List.setIfInBounds_toArray, List.set_cons_succ, List.set_cons_zero]
        refine wpAnyH_done (by kernel_rfl) ?_ _
        go_wp2_with fail
        go_meet
        case rel => exact ⟨gb, RA, RC, rfl, rfl, HGZ.out, HG.out, HRA.out, HV.out⟩
      · go_simp
        obtain ⟨V1, hV⟩ : ∃ V', V' = V0.alloc (.cells #[.int .i64 0, .slice none 0 0] 56) := ⟨_, rfl⟩
        rw [← hV]
        have hb : Below V0.heap.size V0 V1 := by rw [hV]; exact ((Ext.refl V0).alloc _).below
        obtain ⟨gb, hgb⟩ : ∃ gb, gb = V0.heap.size := ⟨_, rfl⟩
        have HG : Hid (Row V1 gb 56 [.int .i64 0, .slice none 0 0]) := by show Row _ _ _ _; rw [hV, hgb]; exact Row.new V0 _ _
        have HGZ : Hid (w8.heap.size ≤ gb) := by show _ ≤ _; rw [hgb]; exact HV.out.size
        have HGW0 : Hid (gb < V1.heap.size) := HG.out.lt
        have HV := Lib.hid (Below.then HV.out hb HV.out.size)
        rw [← hgb]
        clear hb hV hgb
        refine hK.out _ _ (HKP8.out V1 HV.out) (fun hHeld => ?_)
        clear hK K
        try simp only [Act.put, List.setIfInBounds_toArray, List.set_cons_succ, List.set_cons_zero]
        refine wpAnyH_ready (rs := [5]) (by kernel_rfl) (by simp) ?_
        refine (AllReadyH.cons rfl (fun K hK => ?_) AllReadyH.nil)
        go_simp
        refine (HRL8.out V1 HV.out).mono ?_
        rintro e V2 ⟨RA, RC, rfl, hra, hb⟩
        have HRA := Lib.hid hra
        clear hra
        have HG := Lib.hid (HG.out.up hb)
        have HGW : Hid (gb < V1.heap.size) := by show gb < _; have := HGW0.out; omega
        have HWIN : Hid (WinP V1.heap.size V2 V2) := WinP.refl _ _
        have HV := Lib.hid (Below.then HV.out hb HV.out.size)
        clear hb
        go_wp2_with fail
        refine hK.out _ _ (HKP8.out V2 HV.out) (fun hHeld => ?_)
        clear hK K
        try simp only [Act.put, List.setIfInBounds_toArray, List.set_cons_succ, List.set_cons_zero]
        refine takeOp (i := 6) (v := ?_) (some 47) rfl rfl (by kernel_rfl) (by kernel_rfl) (by kernel_rfl) (fun _ _ _ h => h) (Or.inl ⟨by rfl, ?_⟩) (by assumption) ?_
        rotate_left 1
        · (intro w0 hSw; (try dsimp only at hSw); go_simp; try (with_reducible rfl))
        try simp only [Act.put, List.setIfInBounds_toArray, List.set_cons_succ, List.set_cons_zero]
        refine takeOp (i := 7) (v := ?_) (some 54) rfl rfl (by kernel_rfl) (by kernel_rfl) (by kernel_rfl) (fun _ _ _ h => h) (Or.inl ⟨by rfl, ?_⟩) (by assumption) ?_
        rotate_left 1
        · (intro w0 hSw; (try dsimp only at hSw); go_simp; try (with_reducible rfl))
        try simp only [Act.put, List.setIfInBounds_toArray, List.set_cons_succ, List.set_cons_zero]
        refine takeOp (i := 8) (v := ?_) (some 55) rfl rfl (by kernel_rfl) (by kernel_rfl) (by kernel_rfl) (fun _ _ _ h => h) (Or.inl ⟨by rfl, ?_⟩) (by assumption) ?_
        rotate_left 1
        · (intro w0 hSw; (try dsimp only at hSw); go_simp; try (with_reducible rfl))
        try simp only [Act.put, List.setIfInBounds_toArray, List.set_cons_succ, List.set_cons_zero]
        refine wpAnyH_ready (rs := [10]) (by kernel_rfl) (by simp) ?_
        refine (AllReadyH.cons rfl (fun K hK => ?_) AllReadyH.nil)
        have m0 := HG.out.frozen 0
        have n0 : V2.cell? ⟨gb, 0, none⟩ = some (.int .i64 0) := HG.out.cell 0
        have m1 := HG.out.frozen 1
        have n1 : V2.cell? ⟨gb, 1, none⟩ = some (.slice none 0 0) := HG.out.cell 1
        have m9 := HG.out.lt
        go_simp
        go_wp2_with fail
        obtain ⟨V3, hV⟩ : ∃ V', V' = ((V2.setCell ⟨gb, 0, none⟩ (.int .i64 (ks.length : Nat))).setCell ⟨gb, 1, none⟩ (.slice RA X.length RC)) := ⟨_, rfl⟩
        rw [← hV]
        have HG : Hid (Row V3 gb 56 [.int .i64 (ks.length : Nat), .slice RA X.length RC]) := by show Row _ _ _ _; rw [hV]; exact ((HG.out.set 0 _).set 1 _)
        have HWIN : Hid (WinP V1.heap.size V2 V3) := by show WinP _ _ _; rw [hV]; exact ((HWIN.out.set (Or.inl HGW.out) 0 _).set (Or.inl HGW.out) 1 _)
        have HV : Hid (Below w8.heap.size w8 V3) := by show Below _ _ _; rw [hV]; exact ((HV.out.setCell (by show w8.heap.size ≤ gb; exact HGZ.out) _).setCell (by show w8.heap.size ≤ gb; exact HGZ.out) _)
        clear hV m9 m0 n0 m1 n1
        refine hK.out _ _ (HKP8.out V3 HV.out) (fun hHeld => ?_)
        clear hK K
        try simp only [Act.put, List.setIfInBounds_toArray, List.set_cons_succ, List.set_cons_zero]
        refine takeOp (i := 11) (v := ?_) (some 11) rfl rfl (by kernel_rfl) (by kernel_rfl) (by kernel_rfl) (fun _ _ _ h => h) (Or.inl ⟨by rfl, ?_⟩) (by assumption) ?_
        rotate_left 1
        · (intro w0 hSw; (try dsimp only at hSw); go_simp; try (with_reducible rfl))
        try simp only [Act.put, List.setIfInBounds_toArray, List.set_cons_succ, List.set_cons_zero]
        refine wpAnyH_done (by kernel_rfl) ?_ _
        go_wp2_with fail
        go_meet
        case rel => exact ⟨gb, RA, RC, rfl, rfl, HGZ.out, HG.out, HRA.out, HV.out⟩
    case rest =>
    obtain ⟨g10, RA, RC, rfl, rfl, hg10, hr10, hra, hb9⟩ := hcut
    generalize wc = w9 at *
    have HR8 := Lib.hid (HR8.out.up hb9)
    have HKA := Lib.hid (HKA.out.keep (Stay.of hb9))
    have HR10 := Lib.hid hr10
    have HRA := Lib.hid hra
    have HB9 := Lib.hid (HB8.out.trans (hb9.mono hz8))
    have hz9 := HB9.out.size
    have HKP9 : Hid (∀ V, Below w9.heap.size w9 V → (V.cell? ⟨g3, 0, none⟩ = some (.slice SA S.length SC) ∧ V.cell? ⟨g3, 1, none⟩ = some (.slice FA Fs.length FC) ∧ V.cell? ⟨nb, no + i, none⟩ = some (.string nm) ∧ V.cell? ⟨lb, lo + i * 2, none⟩ = some (.string nm) ∧ V.cell? ⟨lb, lo + i * 2 + 1, none⟩ = some (.slice LKA ks.length LKC) ∧ V.cell? ⟨g8, 0, none⟩ = some (.string nm) ∧ V.cell? ⟨g8, 1, none⟩ = some (.slice KA ks.length KC) ∧ V.cell? ⟨g10, 0, none⟩ = some (.int .i64 (ks.length : Nat)) ∧ V.cell? ⟨g10, 1, none⟩ = some (.slice RA X.length RC))) := fun V hb => by
      obtain ⟨-, b, c, d, e, f⟩ := HKPO.out V (HB9.out.trans (hb.mono hz9))
      exact ⟨b, c, d, e, f, cell_below hb (HR8.out.cell 0), cell_below hb (HR8.out.cell 1), cell_below hb (HR10.out.cell 0), cell_below hb (HR10.out.cell 1)⟩
    have HBW9 := Lib.hid (HBWO.out.trans (HB9.out.mono HBWO.out.size))
    have HKND : Hid (∀ V, Below w9.heap.size w9 V → Calls Tryz.prog 14 #[.agg #[.slice SA S.length SC, .slice FA Fs.length FC], .string nm] V fun e V' => (∃ A C, e = .returned (.slice A ks.length C) ∧ SlI .i64 V.heap.size V A ks) ∧ Ext V V') := fun V hb => by
      have h := r08Kinds_any SA SC S (.slice FA Fs.length FC) nm V (SchsM.up HS.out (HBW9.out.trans (hb.mono HBW9.out.size))) (by have := HL.out; omega)
      rw [← HKS.out] at h
      exact h
    have HKK : Hid (∀ (V : World) (A B : Option Addr) (CA CB : Nat), SlI .i64 V.heap.size V A ks → SlI .i64 V.heap.size V B ks → Calls Tryz.prog 66 #[.slice A ks.length CA, .slice B ks.length CB] V fun e V' => e = .returned (.bool true) ∧ Ext V V') := fun V A B CA CB h1 h2 => by
      have h := l08kinds_any A B CA CB ks ks V h1 h2 (by have := HKL.out; omega) (by have := HKL.out; omega)
      rw [decide_eq_true rfl] at h
      exact h
    have hse : (nm.toList == nm.toList) = true := beq_self_eq_true _
    have hsk : ((ks.length : Int) != (ks.length : Int)) = false := by simp
    have g8w : g8 < w9.heap.size := HR8.out.lt
    have g10w : g10 < w9.heap.size := HR10.out.lt
    have g3w : g3 < w9.heap.size := by omega
    have nbw : nb < w9.heap.size := by omega
    have lbw : lb < w9.heap.size := by omega
    clear hr10 hra hb9 HRL8 HKP8 HKPO g2w
    go_upto_region 10 with (fail)
    refine wp_region_held_drew (S := (fun w' => w'.cell? ⟨g3, 0, none⟩ = some (.slice SA S.length SC) ∧ w'.cell? ⟨g3, 1, none⟩ = some (.slice FA Fs.length FC) ∧ w'.cell? ⟨nb, no + i, none⟩ = some (.string nm) ∧ w'.cell? ⟨lb, lo + i * 2, none⟩ = some (.string nm) ∧ w'.cell? ⟨lb, lo + i * 2 + 1, none⟩ = some (.slice LKA ks.length LKC) ∧ w'.cell? ⟨g8, 0, none⟩ = some (.string nm) ∧ w'.cell? ⟨g8, 1, none⟩ = some (.slice KA ks.length KC) ∧ w'.cell? ⟨g10, 0, none⟩ = some (.int .i64 (ks.length : Nat)) ∧ w'.cell? ⟨g10, 1, none⟩ = some (.slice RA X.length RC))) (by kernel_rfl) (HKP9.out w9.drew (Below.refl _ _).drew) (fun hHeld => ?_)
    refine takeOp (i := 0) (v := ?_) (some 56) rfl rfl (by kernel_rfl) (by kernel_rfl) (by kernel_rfl) (fun _ _ _ h => h) (Or.inl ⟨by rfl, ?_⟩) (by assumption) ?_
    rotate_left 1
    · (intro w0 hSw; (try dsimp only at hSw); go_simp; try (with_reducible rfl))
    try simp only [Act.put, List.setIfInBounds_toArray, List.set_cons_succ, List.set_cons_zero]
    refine takeOp (i := 1) (v := ?_) (some 57) rfl rfl (by kernel_rfl) (by kernel_rfl) (by kernel_rfl) (fun _ _ _ h => h) (Or.inl ⟨by rfl, ?_⟩) (by assumption) ?_
    rotate_left 1
    · (intro w0 hSw; (try dsimp only at hSw); go_simp; try (with_reducible rfl))
    try simp only [Act.put, List.setIfInBounds_toArray, List.set_cons_succ, List.set_cons_zero]
    refine takeOp (i := 2) (v := ?_) (some 58) rfl rfl (by kernel_rfl) (by kernel_rfl) (by kernel_rfl) (fun _ _ _ h => h) (Or.inl ⟨by rfl, ?_⟩) (by assumption) ?_
    rotate_left 1
    · (intro w0 hSw; (try dsimp only at hSw); go_simp; try (with_reducible rfl))
    try simp only [Act.put, List.setIfInBounds_toArray, List.set_cons_succ, List.set_cons_zero]
    refine takeOp (i := 3) (v := ?_) (some 59) rfl rfl (by kernel_rfl) (by kernel_rfl) (by kernel_rfl) (fun _ _ _ h => h) (Or.inl ⟨by rfl, ?_⟩) (by assumption) ?_
    rotate_left 1
    · (intro w0 hSw; (try dsimp only at hSw); go_simp; try (with_reducible rfl))
    try simp only [Act.put, List.setIfInBounds_toArray, List.set_cons_succ, List.set_cons_zero]
    refine takeOp (i := 4) (v := ?_) (some 60) rfl rfl (by kernel_rfl) (by kernel_rfl) (by kernel_rfl) (fun _ _ _ h => h) (Or.inl ⟨by rfl, ?_⟩) (by assumption) ?_
    rotate_left 1
    · (intro w0 hSw; (try dsimp only at hSw); go_simp; try (with_reducible rfl))
    try simp only [Act.put, List.setIfInBounds_toArray, List.set_cons_succ, List.set_cons_zero]
    refine takeOp (i := 5) (v := ?_) (some 61) rfl rfl (by kernel_rfl) (by kernel_rfl) (by kernel_rfl) (fun _ _ _ h => h) (Or.inl ⟨by rfl, ?_⟩) (by assumption) ?_
    rotate_left 1
    · (intro w0 hSw; (try dsimp only at hSw); go_simp; try (with_reducible rfl))
    try simp only [Act.put, List.setIfInBounds_toArray, List.set_cons_succ, List.set_cons_zero]
    refine takeOp (i := 6) (v := ?_) (some 62) rfl rfl (by kernel_rfl) (by kernel_rfl) (by kernel_rfl) (fun _ _ _ h => h) (Or.inl ⟨by rfl, ?_⟩) (by assumption) ?_
    rotate_left 1
    · (intro w0 hSw; (try dsimp only at hSw); go_simp; try (with_reducible rfl))
    try simp only [Act.put, List.setIfInBounds_toArray, List.set_cons_succ, List.set_cons_zero]
    refine takeOp (i := 7) (v := ?_) (some 63) rfl rfl (by kernel_rfl) (by kernel_rfl) (by kernel_rfl) (fun _ _ _ h => h) (Or.inl ⟨by rfl, ?_⟩) (by assumption) ?_
    rotate_left 1
    · (intro w0 hSw; (try dsimp only at hSw); go_simp; try (with_reducible rfl))
    try simp only [Act.put, List.setIfInBounds_toArray, List.set_cons_succ, List.set_cons_zero]
    refine takeOp (i := 8) (v := ?_) (some 64) rfl rfl (by kernel_rfl) (by kernel_rfl) (by kernel_rfl) (fun _ _ _ h => h) (Or.inl ⟨by rfl, ?_⟩) (by assumption) ?_
    rotate_left 1
    · (intro w0 hSw; (try dsimp only at hSw); go_simp; try (with_reducible rfl))
    try simp only [Act.put, List.setIfInBounds_toArray, List.set_cons_succ, List.set_cons_zero]
    refine takeOp (i := 9) (v := ?_) (some 65) rfl rfl (by kernel_rfl) (by kernel_rfl) (by kernel_rfl) (fun _ _ _ h => h) (Or.inl ⟨by rfl, ?_⟩) (by assumption) ?_
    rotate_left 1
    · (intro w0 hSw; (try dsimp only at hSw); go_simp; try (with_reducible rfl))
    try simp only [Act.put, List.setIfInBounds_toArray, List.set_cons_succ, List.set_cons_zero]
    refine takeOp (i := 10) (v := ?_) (some 66) rfl rfl (by kernel_rfl) (by kernel_rfl) (by kernel_rfl) (fun _ _ _ h => h) (Or.inl ⟨by rfl, ?_⟩) (by assumption) ?_
    rotate_left 1
    · (intro w0 hSw; (try dsimp only at hSw); go_simp; try (with_reducible rfl))
    try simp only [Act.put, List.setIfInBounds_toArray, List.set_cons_succ, List.set_cons_zero]
    refine takeOp (i := 11) (v := ?_) (some 67) rfl rfl (by kernel_rfl) (by kernel_rfl) (by kernel_rfl) (fun _ _ _ h => h) (Or.inl ⟨by rfl, ?_⟩) (by assumption) ?_
    rotate_left 1
    · (intro w0 hSw; (try dsimp only at hSw); go_simp; try (with_reducible rfl))
    try simp only [Act.put, List.setIfInBounds_toArray, List.set_cons_succ, List.set_cons_zero]
    refine takeOp (i := 12) (v := ?_) (some 68) rfl rfl (by kernel_rfl) (by kernel_rfl) (by kernel_rfl) (fun _ _ _ h => h) (Or.inl ⟨by rfl, ?_⟩) (by assumption) ?_
    rotate_left 1
    · (intro w0 hSw; (try dsimp only at hSw); go_simp; try (with_reducible rfl))
    try simp only [Act.put, List.setIfInBounds_toArray, List.set_cons_succ, List.set_cons_zero]
    refine takeOp (i := 13) (v := ?_) (some 69) rfl rfl (by kernel_rfl) (by kernel_rfl) (by kernel_rfl) (fun _ _ _ h => h) (Or.inl ⟨by rfl, ?_⟩) (by assumption) ?_
    rotate_left 1
    · (intro w0 hSw; (try dsimp only at hSw); go_simp; try (with_reducible rfl))
    try simp only [Act.put, List.setIfInBounds_toArray, List.set_cons_succ, List.set_cons_zero]
    refine takeOp (i := 14) (v := ?_) (some 70) rfl rfl (by kernel_rfl) (by kernel_rfl) (by kernel_rfl) (fun _ _ _ h => h) (Or.inl ⟨by rfl, ?_⟩) (by assumption) ?_
    rotate_left 1
    · (intro w0 hSw; (try dsimp only at hSw); go_simp; try (with_reducible rfl))
    try simp only [Act.put, List.setIfInBounds_toArray, List.set_cons_succ, List.set_cons_zero]
    refine takeOp (i := 15) (v := ?_) (some 71) rfl rfl (by kernel_rfl) (by kernel_rfl) (by kernel_rfl) (fun _ _ _ h => h) (Or.inl ⟨by rfl, ?_⟩) (by assumption) ?_
    rotate_left 1
    · (intro w0 hSw; (try dsimp only at hSw); go_simp; try (with_reducible rfl))
    try simp only [Act.put, List.setIfInBounds_toArray, List.set_cons_succ, List.set_cons_zero]
    refine takeOp (i := 16) (v := ?_) (some 72) rfl rfl (by kernel_rfl) (by kernel_rfl) (by kernel_rfl) (fun _ _ _ h => h) (Or.inl ⟨by rfl, ?_⟩) (by assumption) ?_
    rotate_left 1
    · (intro w0 hSw; (try dsimp only at hSw); go_simp; try (with_reducible rfl))
    try simp only [Act.put, List.setIfInBounds_toArray, List.set_cons_succ, List.set_cons_zero]
    refine takeOp (i := 17) (v := ?_) (some 73) rfl rfl (by kernel_rfl) (by kernel_rfl) (by kernel_rfl) (fun _ _ _ h => h) (Or.inl ⟨by rfl, ?_⟩) (by assumption) ?_
    rotate_left 1
    · (intro w0 hSw; (try dsimp only at hSw); go_simp; try (with_reducible rfl))
    try simp only [Act.put, List.setIfInBounds_toArray, List.set_cons_succ, List.set_cons_zero]
    refine takeOp (i := 18) (v := ?_) (some 74) rfl rfl (by kernel_rfl) (by kernel_rfl) (by kernel_rfl) (fun _ _ _ h => h) (Or.inl ⟨by rfl, ?_⟩) (by assumption) ?_
    rotate_left 1
    · (intro w0 hSw; (try dsimp only at hSw); go_simp; try (with_reducible rfl))
    try simp only [Act.put, List.setIfInBounds_toArray, List.set_cons_succ, List.set_cons_zero]
    refine takeOp (i := 19) (v := ?_) (some 75) rfl rfl (by kernel_rfl) (by kernel_rfl) (by kernel_rfl) (fun _ _ _ h => h) (Or.inl ⟨by rfl, ?_⟩) (by assumption) ?_
    rotate_left 1
    · (intro w0 hSw; (try dsimp only at hSw); go_simp; try (with_reducible rfl))
    try simp only [Act.put, List.setIfInBounds_toArray, List.set_cons_succ, List.set_cons_zero]
    refine takeOp (i := 20) (v := ?_) (some 76) rfl rfl (by kernel_rfl) (by kernel_rfl) (by kernel_rfl) (fun _ _ _ h => h) (Or.inl ⟨by rfl, ?_⟩) (by assumption) ?_
    rotate_left 1
    · (intro w0 hSw; (try dsimp only at hSw); go_simp; try (with_reducible rfl))
    try simp only [Act.put, List.setIfInBounds_toArray, List.set_cons_succ, List.set_cons_zero]
    refine takeOp (i := 21) (v := ?_) (some 77) rfl rfl (by kernel_rfl) (by kernel_rfl) (by kernel_rfl) (fun _ _ _ h => h) (Or.inl ⟨by rfl, ?_⟩) (by assumption) ?_
    rotate_left 1
    · (intro w0 hSw; (try dsimp only at hSw); go_simp; try (with_reducible rfl))
    try simp only [Act.put, List.setIfInBounds_toArray, List.set_cons_succ, List.set_cons_zero]
    refine takeOp (i := 22) (v := ?_) (some 78) rfl rfl (by kernel_rfl) (by kernel_rfl) (by kernel_rfl) (fun _ _ _ h => h) (Or.inl ⟨by rfl, ?_⟩) (by assumption) ?_
    rotate_left 1
    · (intro w0 hSw; (try dsimp only at hSw); go_simp; try (with_reducible rfl))
    try simp only [Act.put, List.setIfInBounds_toArray, List.set_cons_succ, List.set_cons_zero]
    refine takeOp (i := 23) (v := ?_) (some 79) rfl rfl (by kernel_rfl) (by kernel_rfl) (by kernel_rfl) (fun _ _ _ h => h) (Or.inl ⟨by rfl, ?_⟩) (by assumption) ?_
    rotate_left 1
    · (intro w0 hSw; (try dsimp only at hSw); go_simp; try (with_reducible rfl))
    try simp only [Act.put, List.setIfInBounds_toArray, List.set_cons_succ, List.set_cons_zero]
    refine takeOp (i := 24) (v := ?_) (some 80) rfl rfl (by kernel_rfl) (by kernel_rfl) (by kernel_rfl) (fun _ _ _ h => h) (Or.inl ⟨by rfl, ?_⟩) (by assumption) ?_
    rotate_left 1
    · (intro w0 hSw; (try dsimp only at hSw); go_simp; try (with_reducible rfl))
    try simp only [Act.put, List.setIfInBounds_toArray, List.set_cons_succ, List.set_cons_zero]
    refine takeOp (i := 25) (v := ?_) (some 81) rfl rfl (by kernel_rfl) (by kernel_rfl) (by kernel_rfl) (fun _ _ _ h => h) (Or.inl ⟨by rfl, ?_⟩) (by assumption) ?_
    rotate_left 1
    · (intro w0 hSw; (try dsimp only at hSw); go_simp; try (with_reducible rfl))
    try simp only [Act.put, List.setIfInBounds_toArray, List.set_cons_succ, List.set_cons_zero]
    refine takeOp (i := 26) (v := ?_) (some 82) rfl rfl (by kernel_rfl) (by kernel_rfl) (by kernel_rfl) (fun _ _ _ h => h) (Or.inl ⟨by rfl, ?_⟩) (by assumption) ?_
    rotate_left 1
    · (intro w0 hSw; (try dsimp only at hSw); go_simp; try (with_reducible rfl))
    try simp only [Act.put, List.setIfInBounds_toArray, List.set_cons_succ, List.set_cons_zero]
    refine takeOp (i := 27) (v := ?_) (some 83) rfl rfl (by kernel_rfl) (by kernel_rfl) (by kernel_rfl) (fun _ _ _ h => h) (Or.inl ⟨by rfl, ?_⟩) (by assumption) ?_
    rotate_left 1
    · (intro w0 hSw; (try dsimp only at hSw); go_simp; try (with_reducible rfl))
    try simp only [Act.put, List.setIfInBounds_toArray, List.set_cons_succ, List.set_cons_zero]
    refine takeOp (i := 28) (v := ?_) (some 84) rfl rfl (by kernel_rfl) (by kernel_rfl) (by kernel_rfl) (fun _ _ _ h => h) (Or.inl ⟨by rfl, ?_⟩) (by assumption) ?_
    rotate_left 1
    · (intro w0 hSw; (try dsimp only at hSw); go_simp; try (with_reducible rfl))
    try simp only [Act.put, List.setIfInBounds_toArray, List.set_cons_succ, List.set_cons_zero]
    refine takeOp (i := 29) (v := ?_) (some 85) rfl rfl (by kernel_rfl) (by kernel_rfl) (by kernel_rfl) (fun _ _ _ h => h) (Or.inl ⟨by rfl, ?_⟩) (by assumption) ?_
    rotate_left 1
    · (intro w0 hSw; (try dsimp only at hSw); go_simp; try (with_reducible rfl))
    try simp only [Act.put, List.setIfInBounds_toArray, List.set_cons_succ, List.set_cons_zero]
    refine takeOp (i := 30) (v := ?_) (some 86) rfl rfl (by kernel_rfl) (by kernel_rfl) (by kernel_rfl) (fun _ _ _ h => h) (Or.inl ⟨by rfl, ?_⟩) (by assumption) ?_
    rotate_left 1
    · (intro w0 hSw; (try dsimp only at hSw); go_simp; try (with_reducible rfl))
    try simp only [Act.put, List.setIfInBounds_toArray, List.set_cons_succ, List.set_cons_zero]
    refine takeOp (i := 31) (v := ?_) (some 87) rfl rfl (by kernel_rfl) (by kernel_rfl) (by kernel_rfl) (fun _ _ _ h => h) (Or.inl ⟨by rfl, ?_⟩) (by assumption) ?_
    rotate_left 1
    · (intro w0 hSw; (try dsimp only at hSw); go_simp; try (with_reducible rfl))
    try simp only [Act.put, List.setIfInBounds_toArray, List.set_cons_succ, List.set_cons_zero]
    refine takeOp (i := 32) (v := ?_) (some 88) rfl rfl (by kernel_rfl) (by kernel_rfl) (by kernel_rfl) (fun _ _ _ h => h) (Or.inl ⟨by rfl, ?_⟩) (by assumption) ?_
    rotate_left 1
    · (intro w0 hSw; (try dsimp only at hSw); go_simp; try (with_reducible rfl))
    try simp only [Act.put, List.setIfInBounds_toArray, List.set_cons_succ, List.set_cons_zero]
    refine takeOp (i := 33) (v := ?_) (some 89) rfl rfl (by kernel_rfl) (by kernel_rfl) (by kernel_rfl) (fun _ _ _ h => h) (Or.inl ⟨by rfl, ?_⟩) (by assumption) ?_
    rotate_left 1
    · (intro w0 hSw; (try dsimp only at hSw); go_simp; try (with_reducible rfl))
    try simp only [Act.put, List.setIfInBounds_toArray, List.set_cons_succ, List.set_cons_zero]
    refine takeOp (i := 34) (v := ?_) (some 90) rfl rfl (by kernel_rfl) (by kernel_rfl) (by kernel_rfl) (fun _ _ _ h => h) (Or.inl ⟨by rfl, ?_⟩) (by assumption) ?_
    rotate_left 1
    · (intro w0 hSw; (try dsimp only at hSw); go_simp; try (with_reducible rfl))
    try simp only [Act.put, List.setIfInBounds_toArray, List.set_cons_succ, List.set_cons_zero]
    refine wpAnyH_ready (rs := [35]) (by kernel_rfl) (by simp) ?_
    refine AllReadyH.cons rfl (fun K hK => ?_) AllReadyH.nil
    go_simp
    refine (HKND.out w9.drew (Below.refl _ _).drew).mono ?_
    rintro e V1 ⟨⟨A1, C1, rfl, hs1⟩, hx1⟩
    have HX1 := Lib.hid hx1
    have HV1 : Hid (Below w9.heap.size w9 V1) := Below.undrew hx1.below
    have HS1 : Hid (SlI .i64 V1.heap.size V1 A1 ks) := Sl.more (Sl.ext hs1 (Nat.le_refl _) hx1) hx1.size
    clear hs1 hx1
    go_wp2_with fail
    refine hK.out _ _ (HKP9.out V1 HV1.out) (fun hHeld => ?_)
    clear hK K
    try simp only [Act.put, List.setIfInBounds_toArray, List.set_cons_succ, List.set_cons_zero]
    refine wpAnyH_ready (rs := [36]) (by kernel_rfl) (by simp) ?_
    refine AllReadyH.cons rfl (fun K hK => ?_) AllReadyH.nil
    go_simp
    refine (HKK.out V1 KA A1 KC C1 (Sl.more (Sl.below HKA.out.slI HV1.out (Nat.le_refl _)) HV1.out.size) HS1.out).mono ?_
    rintro e V2 ⟨rfl, hx2⟩
    have HV2 := Lib.hid (HV1.out.trans (hx2.below.mono HV1.out.size))
    clear hx2
    go_wp2_with fail
    refine hK.out _ _ (HKP9.out V2 HV2.out) (fun hHeld => ?_)
    clear hK K
    try simp only [Act.put, List.setIfInBounds_toArray, List.set_cons_succ, List.set_cons_zero]
    refine takeOp (i := 37) (v := ?_) (some 93) rfl rfl (by kernel_rfl) (by kernel_rfl) (by kernel_rfl) (fun _ _ _ h => h) (Or.inl ⟨by rfl, ?_⟩) (by assumption) ?_
    rotate_left 1
    · (intro w0 hSw; (try dsimp only at hSw); go_simp; try (with_reducible rfl))
    try simp only [Act.put, List.setIfInBounds_toArray, List.set_cons_succ, List.set_cons_zero]
    refine takeOp (i := 38) (v := ?_) (some 94) rfl rfl (by kernel_rfl) (by kernel_rfl) (by kernel_rfl) (fun _ _ _ h => h) (Or.inl ⟨by rfl, ?_⟩) (by assumption) ?_
    rotate_left 1
    · (intro w0 hSw; (try dsimp only at hSw); go_simp; try (with_reducible rfl))
    try simp only [Act.put, List.setIfInBounds_toArray, List.set_cons_succ, List.set_cons_zero]
    refine takeOp (i := 39) (v := ?_) (some 95) rfl rfl (by kernel_rfl) (by kernel_rfl) (by kernel_rfl) (fun _ _ _ h => h) (Or.inl ⟨by rfl, ?_⟩) (by assumption) ?_
    rotate_left 1
    · (intro w0 hSw; (try dsimp only at hSw); go_simp; try (with_reducible rfl))
    try simp only [Act.put, List.setIfInBounds_toArray, List.set_cons_succ, List.set_cons_zero]
    refine takeOp (i := 40) (v := ?_) (some 96) rfl rfl (by kernel_rfl) (by kernel_rfl) (by kernel_rfl) (fun _ _ _ h => h) (Or.inl ⟨by rfl, ?_⟩) (by assumption) ?_
    rotate_left 1
    · (intro w0 hSw; (try dsimp only at hSw); go_simp; try (with_reducible rfl))
    try simp only [Act.put, List.setIfInBounds_toArray, List.set_cons_succ, List.set_cons_zero]
    refine takeOp (i := 41) (v := ?_) (some 97) rfl rfl (by kernel_rfl) (by kernel_rfl) (by kernel_rfl) (fun _ _ _ h => h) (Or.inl ⟨by rfl, ?_⟩) (by assumption) ?_
    rotate_left 1
    · (intro w0 hSw; (try dsimp only at hSw); go_simp; try (with_reducible rfl))
    try simp only [Act.put, List.setIfInBounds_toArray, List.set_cons_succ, List.set_cons_zero]
    refine takeOp (i := 42) (v := ?_) (some 98) rfl rfl (by kernel_rfl) (by kernel_rfl) (by kernel_rfl) (fun _ _ _ h => h) (Or.inl ⟨by rfl, ?_⟩) (by assumption) ?_
    rotate_left 1
    · (intro w0 hSw; (try dsimp only at hSw); go_simp; try (with_reducible rfl))
    try simp only [Act.put, List.setIfInBounds_toArray, List.set_cons_succ, List.set_cons_zero]
    refine takeOp (i := 43) (v := ?_) (some 99) rfl rfl (by kernel_rfl) (by kernel_rfl) (by kernel_rfl) (fun _ _ _ h => h) (Or.inl ⟨by rfl, ?_⟩) (by assumption) ?_
    rotate_left 1
    · (intro w0 hSw; (try dsimp only at hSw); go_simp; try (with_reducible rfl))
    try simp only [Act.put, List.setIfInBounds_toArray, List.set_cons_succ, List.set_cons_zero]
    refine takeOp (i := 44) (v := ?_) (some 100) rfl rfl (by kernel_rfl) (by kernel_rfl) (by kernel_rfl) (fun _ _ _ h => h) (Or.inl ⟨by rfl, ?_⟩) (by assumption) ?_
    rotate_left 1
    · (intro w0 hSw; (try dsimp only at hSw); go_simp; try (with_reducible rfl))
    try simp only [Act.put, List.setIfInBounds_toArray, List.set_cons_succ, List.set_cons_zero]
    refine takeOp (i := 45) (v := ?_) (some 101) rfl rfl (by kernel_rfl) (by kernel_rfl) (by kernel_rfl) (fun _ _ _ h => h) (Or.inl ⟨by rfl, ?_⟩) (by assumption) ?_
    rotate_left 1
    · (intro w0 hSw; (try dsimp only at hSw); go_simp; try (with_reducible rfl))
    try simp only [Act.put, List.setIfInBounds_toArray, List.set_cons_succ, List.set_cons_zero]
    refine takeOp (i := 46) (v := ?_) (some 102) rfl rfl (by kernel_rfl) (by kernel_rfl) (by kernel_rfl) (fun _ _ _ h => h) (Or.inl ⟨by rfl, ?_⟩) (by assumption) ?_
    rotate_left 1
    · (intro w0 hSw; (try dsimp only at hSw); go_simp; try (with_reducible rfl))
    try simp only [Act.put, List.setIfInBounds_toArray, List.set_cons_succ, List.set_cons_zero]
    refine wpAnyH_ready (rs := [47]) (by kernel_rfl) (by simp) ?_
    refine AllReadyH.cons rfl (fun K hK => ?_) AllReadyH.nil
    go_simp
    refine (HKK.out V2 LKA KA LKC KC (by have hb := HKW.out V2 (HB9.out.trans (HV2.out.mono hz9)); exact Sl.more (Sl.below HLK.out hb (Nat.le_refl _)) hb.size) (Sl.more (Sl.below HKA.out.slI HV2.out (Nat.le_refl _)) HV2.out.size)).mono ?_
    rintro e V3 ⟨rfl, hx3⟩
    have HV3 := Lib.hid (HV2.out.trans (hx3.below.mono HV2.out.size))
    clear hx3
    go_wp2_with fail
    refine hK.out _ _ (HKP9.out V3 HV3.out) (fun hHeld => ?_)
    clear hK K
    try simp only [Act.put, List.setIfInBounds_toArray, List.set_cons_succ, List.set_cons_zero]
    refine takeOp (i := 48) (v := ?_) (some 104) rfl rfl (by kernel_rfl) (by kernel_rfl) (by kernel_rfl) (fun _ _ _ h => h) (Or.inl ⟨by rfl, ?_⟩) (by assumption) ?_
    rotate_left 1
    · (intro w0 hSw; (try dsimp only at hSw); go_simp; try (with_reducible rfl))
    try simp only [Act.put, List.setIfInBounds_toArray, List.set_cons_succ, List.set_cons_zero]
    refine takeOp (i := 49) (v := ?_) (some 105) rfl rfl (by kernel_rfl) (by kernel_rfl) (by kernel_rfl) (fun _ _ _ h => h) (Or.inl ⟨by rfl, ?_⟩) (by assumption) ?_
    rotate_left 1
    · (intro w0 hSw; (try dsimp only at hSw); go_simp; try (with_reducible rfl))
    try simp only [Act.put, List.setIfInBounds_toArray, List.set_cons_succ, List.set_cons_zero]
    refine takeOp (i := 50) (v := ?_) (some 106) rfl rfl (by kernel_rfl) (by kernel_rfl) (by kernel_rfl) (fun _ _ _ h => h) (Or.inl ⟨by rfl, ?_⟩) (by assumption) ?_
    rotate_left 1
    · (intro w0 hSw; (try dsimp only at hSw); go_simp; try (with_reducible rfl))
    try simp only [Act.put, List.setIfInBounds_toArray, List.set_cons_succ, List.set_cons_zero]
    refine takeOp (i := 51) (v := ?_) (some 107) rfl rfl (by kernel_rfl) (by kernel_rfl) (by kernel_rfl) (fun _ _ _ h => h) (Or.inl ⟨by rfl, ?_⟩) (by assumption) ?_
    rotate_left 1
    · (intro w0 hSw; (try dsimp only at hSw); go_simp; try (with_reducible rfl))
    try simp only [Act.put, List.setIfInBounds_toArray, List.set_cons_succ, List.set_cons_zero]
    refine takeOp (i := 53) (v := ?_) (some 109) rfl rfl (by kernel_rfl) (by kernel_rfl) (by kernel_rfl) (fun _ _ _ h => h) (Or.inl ⟨by rfl, ?_⟩) (by assumption) ?_
    rotate_left 1
    · (intro w0 hSw; (try dsimp only at hSw); go_simp; try (with_reducible rfl))
    try simp only [Act.put, List.setIfInBounds_toArray, List.set_cons_succ, List.set_cons_zero]
    refine takeOp (i := 54) (v := ?_) (some 110) rfl rfl (by kernel_rfl) (by kernel_rfl) (by kernel_rfl) (fun _ _ _ h => h) (Or.inl ⟨by rfl, ?_⟩) (by assumption) ?_
    rotate_left 1
    · (intro w0 hSw; (try dsimp only at hSw); go_simp; try (with_reducible rfl))
    try simp only [Act.put, List.setIfInBounds_toArray, List.set_cons_succ, List.set_cons_zero]
    refine takeOp (i := 55) (v := ?_) (some 111) rfl rfl (by kernel_rfl) (by kernel_rfl) (by kernel_rfl) (fun _ _ _ h => h) (Or.inl ⟨by rfl, ?_⟩) (by assumption) ?_
    rotate_left 1
    · (intro w0 hSw; (try dsimp only at hSw); go_simp; try (with_reducible rfl))
    try simp only [Act.put, List.setIfInBounds_toArray, List.set_cons_succ, List.set_cons_zero]
    refine wpAnyH_ready (rs := [52]) (by kernel_rfl) (by simp) ?_
    refine AllReadyH.cons rfl (fun K hK => ?_) AllReadyH.nil
    go_simp
    refine (rlArity_any (ks.length : Nat) RA X.length RC V3).mono ?_
    rintro e V4 ⟨rfl, hx4⟩
    have HV4 := Lib.hid (HV3.out.trans (hx4.below.mono HV3.out.size))
    clear hx4
    go_wp2_with fail
    refine hK.out _ _ (HKP9.out V4 HV4.out) (fun hHeld => ?_)
    clear hK K
    try simp only [Act.put, List.setIfInBounds_toArray, List.set_cons_succ, List.set_cons_zero]
    refine takeOp (i := 56) (v := ?_) (some 112) rfl rfl (by kernel_rfl) (by kernel_rfl) (by kernel_rfl) (fun _ _ _ h => h) (Or.inl ⟨by rfl, ?_⟩) (by assumption) ?_
    rotate_left 1
    · (intro w0 hSw; (try dsimp only at hSw); go_simp; try (with_reducible rfl))
    try simp only [Act.put, List.setIfInBounds_toArray, List.set_cons_succ, List.set_cons_zero]
    refine takeOp (i := 57) (v := ?_) (some 113) rfl rfl (by kernel_rfl) (by kernel_rfl) (by kernel_rfl) (fun _ _ _ h => h) (Or.inl ⟨by rfl, ?_⟩) (by assumption) ?_
    rotate_left 1
    · (intro w0 hSw; (try dsimp only at hSw); go_simp; try (with_reducible rfl))
    try simp only [Act.put, List.setIfInBounds_toArray, List.set_cons_succ, List.set_cons_zero]
    refine wpAnyH_done (by kernel_rfl) ?_ _
    have HX4 := Lib.hid (HBW9.out.trans (HV4.out.mono HBW9.out.size))
    have HRA4 : Hid (SlRs V4.heap.size V4 RA X) := by
      have h := (HRA.out.keep (w' := V4) fun p hp _ => HX4.out.cell hp).more HX4.out.size
      exact h.sl
    have HR104 := Lib.hid (HR10.out.up HV4.out)
    have HRWS := Lib.hid (rlRows_any (ks.length : Nat) RA RC X V4 HRA4.out (HROK.out.rs (by have := HKL.out; omega)) (by have := HROK.out.many; omega))
    have HXN : Hid (X.length ≤ 4096) := HROK.out.many
    obtain ⟨-, -, -, -, -, -, -, d0, d1⟩ := HKP9.out V4 HV4.out
    have d2 := HR104.out.lt
    clear hse hsk g8w g10w HKND HKK
    go_upto_region 12 with (fail)
    go_wp2_with fail
    refine HRWS.out.mono ?_
    rintro e w12 ⟨g12, rfl, hmr, hb12⟩
    obtain ⟨hs12, hrow12, hl12, -, hat12⟩ := hmr
    have HM12 : Hid (RowCs w12.heap.size w12 X hs12) := ⟨hl12, fun u hu => by
      obtain ⟨t, ht, rfl⟩ := List.getElem_of_mem hu
      obtain ⟨A', C', h1, -⟩ := hat12 t (by omega) (by omega)
      rw [(List.getElem?_eq_some_iff.1 h1).2]; rfl, fun t ht => by
      obtain ⟨A', C', h1, -, -, h2, -⟩ := hat12 t ht ht
      exact ⟨A', C', h1, h2⟩⟩
    have HRW12 := Lib.hid hrow12
    have HV12 := Lib.hid (HV4.out.trans (hb12.mono HV4.out.size))
    have hz12 := HV12.out.size
    have HB12 := Lib.hid (HBW9.out.trans (HV12.out.mono HBW9.out.size))
    have HRR := Lib.hid (fun (V : World) (hb : Below w12.heap.size w12 V) => r08Rows_any (.slice SA S.length SC) FA FC F Fs nm V HREL.out (FactsM.up HFM.out (HB12.out.trans (hb.mono HB12.out.size))) HL.out.2 HFR.out)
    have HRR : Hid (∀ V, Below w12.heap.size w12 V → Calls Tryz.prog 15 #[.agg #[.slice SA S.length SC, .slice FA Fs.length FC], .string nm] V fun e V' => ∃ A C, ∃ hs : List Value, e = .returned (.slice A X.length C) ∧ RowCs V'.heap.size V' X hs ∧ Sl V'.heap.size V' A hs ∧ Below V.heap.size V V') := fun V hb => by
      have h := HRR.out V hb
      rw [← HXF.out] at h
      exact h
    have HKPC : Hid (∀ V, Below w12.heap.size w12 V → V.cell? ⟨g3, 0, none⟩ = some (.slice SA S.length SC) ∧ V.cell? ⟨g3, 1, none⟩ = some (.slice FA Fs.length FC) ∧ V.cell? ⟨nb, no + i, none⟩ = some (.string nm)) := fun V hb => by
      obtain ⟨a, b, c, -⟩ := HKP9.out V (HV12.out.trans (hb.mono hz12))
      exact ⟨a, b, c⟩
    have g3x : g3 < w12.heap.size := by omega
    have nbx : nb < w12.heap.size := by omega
    clear hrow12 hat12 hb12 d0 d1 d2 HRWS HRA4 HR104 HKP9
    go_upto_region 13 with (fail)
    refine wp_region_held_drew (S := (fun w' => w'.cell? ⟨g3, 0, none⟩ = some (.slice SA S.length SC) ∧ w'.cell? ⟨g3, 1, none⟩ = some (.slice FA Fs.length FC) ∧ w'.cell? ⟨nb, no + i, none⟩ = some (.string nm))) (by kernel_rfl) (HKPC.out w12.drew (Below.refl _ _).drew) (fun hHeld => ?_)
    refine takeOp (i := 0) (v := ?_) (some 116) rfl rfl (by kernel_rfl) (by kernel_rfl) (by kernel_rfl) (fun _ _ _ h => h) (Or.inl ⟨by rfl, ?_⟩) (by assumption) ?_
    rotate_left 1
    · (intro w0 hSw; (try dsimp only at hSw); go_simp; try (with_reducible rfl))
    try simp only [Act.put, List.setIfInBounds_toArray, List.set_cons_succ, List.set_cons_zero]
    refine takeOp (i := 1) (v := ?_) (some 117) rfl rfl (by kernel_rfl) (by kernel_rfl) (by kernel_rfl) (fun _ _ _ h => h) (Or.inl ⟨by rfl, ?_⟩) (by assumption) ?_
    rotate_left 1
    · (intro w0 hSw; (try dsimp only at hSw); go_simp; try (with_reducible rfl))
    try simp only [Act.put, List.setIfInBounds_toArray, List.set_cons_succ, List.set_cons_zero]
    refine takeOp (i := 2) (v := ?_) (some 118) rfl rfl (by kernel_rfl) (by kernel_rfl) (by kernel_rfl) (fun _ _ _ h => h) (Or.inl ⟨by rfl, ?_⟩) (by assumption) ?_
    rotate_left 1
    · (intro w0 hSw; (try dsimp only at hSw); go_simp; try (with_reducible rfl))
    try simp only [Act.put, List.setIfInBounds_toArray, List.set_cons_succ, List.set_cons_zero]
    refine takeOp (i := 3) (v := ?_) (some 119) rfl rfl (by kernel_rfl) (by kernel_rfl) (by kernel_rfl) (fun _ _ _ h => h) (Or.inl ⟨by rfl, ?_⟩) (by assumption) ?_
    rotate_left 1
    · (intro w0 hSw; (try dsimp only at hSw); go_simp; try (with_reducible rfl))
    try simp only [Act.put, List.setIfInBounds_toArray, List.set_cons_succ, List.set_cons_zero]
    refine takeOp (i := 4) (v := ?_) (some 120) rfl rfl (by kernel_rfl) (by kernel_rfl) (by kernel_rfl) (fun _ _ _ h => h) (Or.inl ⟨by rfl, ?_⟩) (by assumption) ?_
    rotate_left 1
    · (intro w0 hSw; (try dsimp only at hSw); go_simp; try (with_reducible rfl))
    try simp only [Act.put, List.setIfInBounds_toArray, List.set_cons_succ, List.set_cons_zero]
    refine wpAnyH_ready (rs := [5]) (by kernel_rfl) (by simp) ?_
    refine AllReadyH.cons rfl (fun K hK => ?_) AllReadyH.nil
    go_simp
    refine (HRR.out w12.drew (Below.refl _ _).drew).mono ?_
    rintro e w13 ⟨WA, WC, hs13, rfl, hc13, hsl13, hb13⟩
    have HB13 : Hid (Below w12.heap.size w12 w13) := Below.undrew hb13
    have HC13 := Lib.hid hc13
    have HSL13 := Lib.hid hsl13
    clear hc13 hsl13 hb13
    go_wp2_with fail
    refine hK.out _ _ (HKPC.out w13 HB13.out) (fun hHeld => ?_)
    clear hK K
    try simp only [Act.put, List.setIfInBounds_toArray, List.set_cons_succ, List.set_cons_zero]
    refine takeOp (i := 6) (v := ?_) (some 13) rfl rfl (by kernel_rfl) (by kernel_rfl) (by kernel_rfl) (fun _ _ _ h => h) (Or.inl ⟨by rfl, ?_⟩) (by assumption) ?_
    rotate_left 1
    · (intro w0 hSw; (try dsimp only at hSw); go_simp; try (with_reducible rfl))
    try simp only [Act.put, List.setIfInBounds_toArray, List.set_cons_succ, List.set_cons_zero]
    refine wpAnyH_done (by kernel_rfl) ?_ _
    have HM13 := Lib.hid (HM12.out.up HB13.out)
    have HRW13 := Lib.hid (HRW12.out.up HB13.out).sl
    have hz13 := HB13.out.size
    have HB13W := Lib.hid (HB12.out.trans (HB13.out.mono HB12.out.size))
    have hxx : ((X.length : Int) != (X.length : Int)) = false := by simp
    have HXL : Hid (∀ x ∈ X, x.length ≤ 1000000) := fun x hx => by
      have h := HXF.out
      rw [h] at hx
      exact HFR.out _ ((HREL.out.2.2 nm x).1 hx)
    have HB3W : Hid (Below w3.heap.size w3 w13) := HKW.out w13 ((HB9.out.trans (HV12.out.mono hz9)).trans (HB13.out.mono (by omega)))
    clear HKPC HRR g3x nbx g3w nbw lbw
    go_wp2_with fail
    go_loopw [14] (fun c wx => ∃ k : Nat, k ≤ X.length ∧ c = .int .i64 k ∧ Ext w13 wx) (fun c _ => X.length - (intOf c).toNat)
    case atStart => exact ⟨0, Nat.zero_le _, rfl, Ext.refl _⟩
    case round =>
      obtain ⟨k, hk, rfl, hx⟩ := hrel
      have HX := Lib.hid hx
      have hzx := hx.size
      clear hx
      by_cases hkl : k < X.length
      · obtain ⟨vb, vo, hve, hvb, v0⟩ := HRW13.out.at_ (k := k) (by rw [HM13.out.len]; exact hkl)
        injection hve with hve
        injection hve with hv1 hv2
        subst hv1 hv2
        rw [Nat.zero_add] at v0
        obtain ⟨ub, uo, rfl, hub, u0⟩ := HSL13.out.at_ (k := k) (by rw [HC13.out.len]; exact hkl)
        obtain ⟨YA, YC, y0, hy⟩ := HM13.out.at_ k hkl
        obtain ⟨ZA, ZC, z0, hz⟩ := HC13.out.at_ k hkl
        rw [(List.getElem?_eq_some_iff.1 y0).2] at v0
        rw [(List.getElem?_eq_some_iff.1 z0).2] at u0
        have v0 := (HX.out.cell hvb).trans v0
        have u0 := (HX.out.cell hub).trans u0
        have HXK : Hid (X[k].length ≤ 1000000) := HXL.out _ (List.getElem_mem hkl)
        have HSA : Hid (∀ V, Ext wr V → Calls Tryz.prog 22 #[.slice YA X[k].length YC, .slice ZA X[k].length ZC] V fun e V' => e = .returned (.bool true) ∧ Ext V V') := fun V hv => by
          have hx13 := HX.out.trans hv
          have h := r08Same_any YA ZA YC ZC X[k] X[k] V (Sl.more (Sl.ext hy (Nat.le_refl _) hx13) hx13.size) (Sl.more (Sl.ext hz (Nat.le_refl _) hx13) hx13.size) HXK.out HXK.out
          rw [decide_eq_true rfl] at h
          exact h
        generalize X[k].length = xl at *
        have p0 : (0 : Int) ≤ (k : Int) := by omega
        have p1 : (k : Int) < (X.length : Int) := by omega
        have p2 : g12 < wr.heap.size := by omega
        have p3 : ub < wr.heap.size := by omega
        have hw2 : IntKind.i64.wrap ((k : Int) + 1) = ((k + 1 : Nat) : Int) := by rw [IntWalk.i64_in _ (by have := HXN.out; omega)]; omega
        clear y0 z0 hy hz
        go_upto_region 19 with (fail)
        refine wp_region_held_drew (S := (fun w' => w'.cell? ⟨g12, k, none⟩ = some (.slice YA xl YC) ∧ w'.cell? ⟨ub, uo + k, none⟩ = some (.slice ZA xl ZC))) (by kernel_rfl) ⟨v0, u0⟩ (fun hHeld => ?_)
        refine takeOp (i := 0) (v := ?_) (some 133) rfl rfl (by kernel_rfl) (by kernel_rfl) (by kernel_rfl) (fun _ _ _ h => h) (Or.inl ⟨by rfl, ?_⟩) (by assumption) ?_
        rotate_left 1
        · (intro w0 hSw; (try dsimp only at hSw); go_simp; try (with_reducible rfl))
        try simp only [Act.put, List.setIfInBounds_toArray, List.set_cons_succ, List.set_cons_zero]
        refine takeOp (i := 1) (v := ?_) (some 134) rfl rfl (by kernel_rfl) (by kernel_rfl) (by kernel_rfl) (fun _ _ _ h => h) (Or.inl ⟨by rfl, ?_⟩) (by assumption) ?_
        rotate_left 1
        · (intro w0 hSw; (try dsimp only at hSw); go_simp; try (with_reducible rfl))
        try simp only [Act.put, List.setIfInBounds_toArray, List.set_cons_succ, List.set_cons_zero]
        refine takeOp (i := 2) (v := ?_) (some 135) rfl rfl (by kernel_rfl) (by kernel_rfl) (by kernel_rfl) (fun _ _ _ h => h) (Or.inl ⟨by rfl, ?_⟩) (by assumption) ?_
        rotate_left 1
        · (intro w0 hSw; (try dsimp only at hSw); go_simp; try (with_reducible rfl))
        try simp only [Act.put, List.setIfInBounds_toArray, List.set_cons_succ, List.set_cons_zero]
        refine takeOp (i := 3) (v := ?_) (some 136) rfl rfl (by kernel_rfl) (by kernel_rfl) (by kernel_rfl) (fun _ _ _ h => h) (Or.inl ⟨by rfl, ?_⟩) (by assumption) ?_
        rotate_left 1
        · (intro w0 hSw; (try dsimp only at hSw); go_simp; try (with_reducible rfl))
        try simp only [Act.put, List.setIfInBounds_toArray, List.set_cons_succ, List.set_cons_zero]
        refine takeOp (i := 4) (v := ?_) (some 137) rfl rfl (by kernel_rfl) (by kernel_rfl) (by kernel_rfl) (fun _ _ _ h => h) (Or.inl ⟨by rfl, ?_⟩) (by assumption) ?_
        rotate_left 1
        · (intro w0 hSw; (try dsimp only at hSw); go_simp; try (with_reducible rfl))
        try simp only [Act.put, List.setIfInBounds_toArray, List.set_cons_succ, List.set_cons_zero]
        refine takeOp (i := 5) (v := ?_) (some 138) rfl rfl (by kernel_rfl) (by kernel_rfl) (by kernel_rfl) (fun _ _ _ h => h) (Or.inl ⟨by rfl, ?_⟩) (by assumption) ?_
        rotate_left 1
        · (intro w0 hSw; (try dsimp only at hSw); go_simp; try (with_reducible rfl))
        try simp only [Act.put, List.setIfInBounds_toArray, List.set_cons_succ, List.set_cons_zero]
        refine takeOp (i := 6) (v := ?_) (some 139) rfl rfl (by kernel_rfl) (by kernel_rfl) (by kernel_rfl) (fun _ _ _ h => h) (Or.inl ⟨by rfl, ?_⟩) (by assumption) ?_
        rotate_left 1
        · (intro w0 hSw; (try dsimp only at hSw); go_simp; try (with_reducible rfl))
        try simp only [Act.put, List.setIfInBounds_toArray, List.set_cons_succ, List.set_cons_zero]
        refine takeOp (i := 7) (v := ?_) (some 140) rfl rfl (by kernel_rfl) (by kernel_rfl) (by kernel_rfl) (fun _ _ _ h => h) (Or.inl ⟨by rfl, ?_⟩) (by assumption) ?_
        rotate_left 1
        · (intro w0 hSw; (try dsimp only at hSw); go_simp; try (with_reducible rfl))
        try simp only [Act.put, List.setIfInBounds_toArray, List.set_cons_succ, List.set_cons_zero]
        refine wpAnyH_ready (rs := [8]) (by kernel_rfl) (by simp) ?_
        refine AllReadyH.cons rfl (fun K hK => ?_) AllReadyH.nil
        go_simp
        refine (HSA.out wr.drew (Ext.refl _).drew).mono ?_
        rintro e V ⟨rfl, hxV⟩
        have hxV : Ext wr V := (Ext.refl wr).drew.trans hxV
        have HK8 : Hid (V.cell? ⟨g12, k, none⟩ = some (.slice YA xl YC) ∧ V.cell? ⟨ub, uo + k, none⟩ = some (.slice ZA xl ZC)) := ⟨(hxV.cell p2).trans v0, (hxV.cell p3).trans u0⟩
        have HXV := Lib.hid (HX.out.trans hxV)
        clear hxV
        go_wp2_with fail
        refine hK.out _ _ HK8.out (fun hHeld => ?_)
        clear hK K
        try simp only [Act.put, List.setIfInBounds_toArray, List.set_cons_succ, List.set_cons_zero]
        refine takeOp (i := 9) (v := ?_) (some 142) rfl rfl (by kernel_rfl) (by kernel_rfl) (by kernel_rfl) (fun _ _ _ h => h) (Or.inl ⟨by rfl, ?_⟩) (by assumption) ?_
        rotate_left 1
        · (intro w0 hSw; (try dsimp only at hSw); go_simp; try (with_reducible rfl))
        try simp only [Act.put, List.setIfInBounds_toArray, List.set_cons_succ, List.set_cons_zero]
        refine wpAnyH_done (by kernel_rfl) ?_ _
        go_wp2_with fail
        go_roundw
        case rel => exact ⟨k + 1, hkl, by go_num, HXV.out⟩
        case measure => simp [intOf]; omega
      · obtain rfl : k = X.length := by omega
        have p1 : ¬ (X.length : Int) < (X.length : Int) := by omega
        go_wp2_with fail
        go_roundw
        case rel => exact ⟨i + 1, hil, by go_num, HB3W.out.trans (HX.out.below.mono (by omega))⟩
        case measure => simp [intOf]; omega
end
end Go.Proofs.YtdadchpiibipoaaGreatDoor
section
namespace Go.Proofs
open Go.RowKit Go.Maps Go.Sort Go.Shelf

set_option maxHeartbeats 2000000 in
theorem YtdadchpiibipoaaGreatDoor.names0 (w : World) : Calls Tryz.prog 45 #[.agg #[.map none]] w fun e w' => e = .returned (.slice none 0 0) ∧ Below w.heap.size w w' := by
  refine (callsIn_wide (n := 6)).1 ?_
  obtain ⟨W0, hW0⟩ : ∃ W0, W0 = w.alloc (.cells #[.map none] 28) := ⟨_, rfl⟩
  have hb0 : Below w.heap.size w W0 := by rw [hW0]; exact (Below.refl _ w).alloc (Nat.le_refl _) _
  have hseq : SeqGives Fence.wide 2 Tryz.prog 102 #[.pointer (some ⟨W0.heap.size, 0, none⟩)] encStr (fun ss : List (List UInt8) => ss = []) 0 (W0.alloc (.cells #[.map none] 26)) :=
    AnyZ.keys_gives_nil (ρ := YtdadchpiibipoaaGreatDoor.keysN_ren) { YtdadchpiibipoaaGreatDoor.keysN with } Fence.wide _ trivial rfl W0.heap.size _ (by simp) (by simp)
  have cK : ∀ mb W, CallsIn Fence.wide 5 Tryz.prog 77 #[.map mb] W fun e w' => e = .returned (.func (.func 102) #[] #[.pointer (some ⟨W.heap.size, 0, none⟩)]) ∧ w' = W.alloc (.cells #[.map mb] 26) := fun mb W => AnyZ.keys_in YtdadchpiibipoaaGreatDoor.keysN Fence.wide 5 trivial rfl mb W
  have cS := AnyZ.sorted_in YtdadchpiibipoaaGreatDoor.sortedN Fence.wide 5 trivial trivial trivial trivial rfl (by omega) (YtdadchpiibipoaaGreatDoor.sortsN _) (enters_of Tryz.func101 (by kernel_rfl) rfl) 102 #[.pointer (some ⟨W0.heap.size, 0, none⟩)] trivial (enters_of Tryz.func102 (by kernel_rfl) rfl) _ _ (by simp [maxLen]) (by simp) _ hseq
  change CallsIn _ _ Tryz.prog 76 _ _ _ at cS
  have HW0 := Lib.hid hW0
  clear hW0
  have hfK : Fence.wide.fn 77 := trivial
  have hfS : Fence.wide.fn 76 := trivial
  refine callsIn_of_wp Tryz.func45 rfl trivial ?_ rfl
  simp only [Tryz.ntmps45, List.size_toArray, List.length_cons, List.length_nil, Nat.reduceAdd, Nat.reduceSub, Array.replicate_succ, Array.replicate_zero, List.push_toArray, List.append_toArray, List.nil_append, List.cons_append]
  gi_wp2_with (first
    | (gi_at_call 77; rw [← HW0.out]; refine (cK _ _).mono ?_; rintro e w' ⟨rfl, rfl⟩)
    | (gi_at_call 76; go_loud (refine cS.mono ?_); rintro e w' ⟨v, ss, rfl, hS, hrow, hnil, hb⟩))
  go_ret
  exact ⟨by rw [hnil.2 hS]; first | done | rfl, (hb0.trans ((Below.refl _ W0).alloc (Nat.le_refl _) _ |>.mono hb0.size)).trans (hb.mono (by have := hb0.size; simp; omega))⟩
end Go.Proofs
namespace Go.Proofs.YtdadchpiibipoaaGreatDoor
open Go.RowKit Go.Sort Go.ChangeMaps Go.WideShapes

set_option maxHeartbeats 2000000 in
theorem ctSchemas_nil (w : World) : Calls Tryz.prog 31 #[.agg #[.map none]] w fun e w' => (∃ A C, e = .returned (.slice A 0 C)) ∧ Below w.heap.size w w' := by
  obtain ⟨W0, hW0⟩ : ∃ W, W = w.alloc (.cells #[.map none] 28) := ⟨_, rfl⟩
  have HB0 : Hid (Below w.heap.size w W0) := by show Below _ _ _; rw [hW0]; exact ((Ext.refl w).alloc _).below
  have HN := Lib.hid (names0 W0)
  have c0 : W0.cell? ⟨w.heap.size, 0, none⟩ = some (.map none) := by rw [hW0]; simp
  have z0 : w.heap.size < W0.heap.size := by rw [hW0]; simp
  obtain ⟨cs, hcl, hmk0⟩ := makeSchs 0 (by omega)
  have hmk : ∀ w : World, (Instr.makeSlice 22 (.int .i64 0) (.int .i64 0)).run Tryz.prog w = .ok (.slice (some ⟨w.heap.size, 0, none⟩) 0 0) (w.alloc (.cells cs.toArray 62)) := hmk0
  clear hmk0 hcl
  go_enter Tryz.func31, Tryz.ntmps31
  go_upto_region 1 with (fail)
  rw [← hW0]
  clear hW0
  go_wp2_with fail
  refine HN.out.mono ?_
  rintro e w1 ⟨rfl, hb1⟩
  have HB1 := Lib.hid (HB0.out.trans (hb1.mono HB0.out.size))
  have HB2 : Hid (Below w.heap.size w (w1.alloc (.cells cs.toArray 62))) := HB1.out.alloc HB1.out.size _
  clear hb1 HN
  go_wp2_with fail
  refine wp_loop_rounds 1 ?_
  rw [rounds_succ]
  go_wp2_with fail
  go_ret
  exact ⟨⟨_, _, rfl⟩, HB2.out⟩

end Go.Proofs.YtdadchpiibipoaaGreatDoor
end
namespace Go.Proofs.YtdadchpiibipoaaGreatDoor
section
open Go.RowKit

theorem step_bad {S : Sch} {F : Cont} {u : Upd} (h : checkF S u.rel u.row ≠ 0) : (stepU S F u).1 = checkF S u.rel u.row := by
  unfold stepU; rw [if_neg h]
theorem apply_rel {S : Sch} : ∀ (us : List Upd) (F : Cont) (Fs : List Fact) (n : Nat), RelF F Fs → Fs.length + us.length ≤ 4096 →
    (applyF S F n us).1 = (refA S Fs n us).1 ∧ ((refA S Fs n us).1 = 0 → RelF (applyF S F n us).2.1 (refA S Fs n us).2.1 ∧ (applyF S F n us).2.2 = (refA S Fs n us).2.2 ∧ (refA S Fs n us).2.1.length ≤ Fs.length + us.length)
  | [], F, Fs, n, h, _ => ⟨rfl, fun _ => ⟨h, rfl, Nat.le_refl _⟩⟩
  | u :: t, F, Fs, n, h, hl => by
    simp only [List.length_cons] at hl
    by_cases hc : checkF S u.rel u.row = 0
    · obtain ⟨s1, s2, s3⟩ := h.step u hc (by omega)
      have e1 : applyF S F n (u :: t) = applyF S (stepU S F u).2.1 (if (stepU S F u).2.2 = true then n + 1 else n) t := by
        show (if (stepU S F u).1 = 0 then _ else _) = _
        rw [if_pos s1]
      have e2 : refA S Fs n (u :: t) = refA S (refU Fs u).1 (n + if (refU Fs u).2 = true then 1 else 0) t := by
        show (if checkF S u.rel u.row = 0 then _ else _) = _
        rw [if_pos hc]
      have e3 : (if (stepU S F u).2.2 = true then n + 1 else n) = n + if (refU Fs u).2 = true then 1 else 0 := by
        rw [s3]; split <;> rfl
      have hlen := refU_len Fs u
      rw [e1, e2, e3]
      obtain ⟨i1, i2⟩ := apply_rel t (stepU S F u).2.1 (refU Fs u).1 (n + if (refU Fs u).2 = true then 1 else 0) s2 (by omega)
      refine ⟨i1, fun h0 => ?_⟩
      obtain ⟨a, b, c⟩ := i2 h0
      exact ⟨a, b, by simp only [List.length_cons]; omega⟩
    · have e1 : applyF S F n (u :: t) = ((stepU S F u).1, F, 0) := by
        show (if (stepU S F u).1 = 0 then _ else _) = _
        rw [if_neg (by rw [step_bad hc]; exact hc)]
      have e2 : refA S Fs n (u :: t) = (checkF S u.rel u.row, [], 0) := by
        show (if checkF S u.rel u.row = 0 then _ else _) = _
        rw [if_neg hc]
      rw [e1, e2]
      exact ⟨step_bad hc, fun h0 => absurd h0 hc⟩
theorem refA_names {S : Sch} : ∀ (us : List Upd) (Fs : List Fact) (n : Nat), FNames S Fs → FNames S (refA S Fs n us).2.1
  | [], Fs, n, h => h
  | u :: t, Fs, n, h => by
    show FNames S (if checkF S u.rel u.row = 0 then refA S (refU Fs u).1 (n + if (refU Fs u).2 = true then 1 else 0) t else (checkF S u.rel u.row, [], 0)).2.1
    split
    · rename_i hc
      exact refA_names t _ _ (h.step hc)
    · exact fun f hf => (by cases hf)
theorem refA_rows {S : Sch} (m : Nat) : ∀ (us : List Upd) (Fs : List Fact) (n : Nat), (∀ f ∈ Fs, f.2.length ≤ m) → (∀ u ∈ us, u.row.length ≤ m) → ∀ f ∈ (refA S Fs n us).2.1, f.2.length ≤ m
  | [], Fs, n, h, _ => h
  | u :: t, Fs, n, h, hu => by
    show ∀ f ∈ (if checkF S u.rel u.row = 0 then refA S (refU Fs u).1 (n + if (refU Fs u).2 = true then 1 else 0) t else (checkF S u.rel u.row, [], 0)).2.1, f.2.length ≤ m
    split
    · exact refA_rows m t _ _ (refU_rows h (hu u List.mem_cons_self)) fun v hv => hu v (List.mem_cons_of_mem _ hv)
    · exact fun f hf => (by cases hf)
theorem refA_count {S : Sch} : ∀ (us : List Upd) (Fs : List Fact) (n : Nat), (refA S Fs n us).2.2 ≤ n + us.length
  | [], Fs, n => Nat.le_refl _
  | u :: t, Fs, n => by
    show (if checkF S u.rel u.row = 0 then refA S (refU Fs u).1 (n + if (refU Fs u).2 = true then 1 else 0) t else (checkF S u.rel u.row, [], 0)).2.2 ≤ _
    split
    · have := refA_count (S := S) t (refU Fs u).1 (n + if (refU Fs u).2 = true then 1 else 0)
      rw [List.length_cons]
      by_cases hb : (refU Fs u).2 = true
      · rw [if_pos hb] at this ⊢; omega
      · rw [if_neg hb] at this ⊢; omega
    · exact Nat.zero_le _
theorem apply_one {S : Sch} {F : Cont} {Fs : List Fact} (h : RelF F Fs) (hl : Fs.length < 4096) (u : Upd) : (applyF S F 0 [u]).1 = checkF S u.rel u.row := by
  rw [applyF_one]
  by_cases hc : checkF S u.rel u.row = 0
  · obtain ⟨s1, -, -⟩ := h.step u hc hl
    rw [if_pos s1, hc]
  · have hs := step_bad (F := F) hc
    rw [if_neg (by rw [hs]; exact hc)]
    exact hs
theorem made_one {S : Sch} {us : List Upd} {k : Nat} (h : k < us.length) (hl : us.length ≤ 4000) :
    madeF S (us.take (k + 1)) = if checkF S us[k].rel us[k].row = 0 then ((applyF S (madeF S (us.take k)).1 0 [us[k]]).2.1, (refU (madeF S (us.take k)).2 us[k]).1) else madeF S (us.take k) := by
  rw [madeF_take S h]
  unfold madeS
  have hr := made_rel S (us.take k) (by rw [List.length_take]; omega)
  have hlt : (madeF S (us.take k)).2.length < 4096 := by have := hr.2; rw [List.length_take] at this; omega
  by_cases hc : checkF S us[k].rel us[k].row = 0
  · obtain ⟨s1, -, -⟩ := hr.1.step us[k] hc hlt
    rw [if_pos s1, if_pos hc, applyF_one, if_pos s1]
  · rw [if_neg hc, if_neg (by rw [step_bad hc]; exact hc)]
end
end Go.Proofs.YtdadchpiibipoaaGreatDoor

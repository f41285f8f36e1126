/- Walk: relation.build. -/
import Derived.Test.YtiopkooigeaneaaV9
import Derived.Test.YtiopkooigeaneaaRSet
namespace Go.Proofs.Ytiopkooigeaneaa
open Go.RowKit Go.Sort Go.Shelf Go.Lib

section
variable {w0 wr : World} {g off : Nat}
def El.lift (hg : w0.grownBy wr (some g)) (e : El w0 g) : El wr g := ⟨e.val, e.row, by
  obtain ⟨A', C', h1, h2, h3, h4, h5, h6⟩ := e.row_at hg
  exact ⟨A', C', h1, h2, h3, h4, h5, h6⟩⟩
theorem HB.lift {d : Array (El w0 g)} (h : HB w0 wr g off d) : HB wr wr g off (d.map (El.lift h.grown)) := by
  refine ⟨⟨rfl, rfl, rfl, Nat.le_refl _, fun _ _ _ => rfl⟩, fun j hj => ?_, h.lt'⟩
  simp only [Array.size_map] at hj
  obtain ⟨h1, h2⟩ := h.holds j hj
  refine ⟨?_, h2⟩
  rw [h1]
  have e : (d.map (El.lift h.grown))[j]! = El.lift h.grown d[j]! := by simp [hj]
  rw [e]
  rfl
theorem lift_rows {d : Array (El w0 g)} (hg : w0.grownBy wr (some g)) : (d.map (El.lift hg)).toList.map El.row = d.toList.map El.row := by
  rw [Array.toList_map, List.map_map]
  rfl

/-- Every header of block g from off on reads the row that it should. -/
def GoodH (w : World) (g off : Nat) (Y : List RL.R) : Prop := ∀ i (h : i < Y.length), ∃ A' C', w.cell? ⟨g, off + i, none⟩ = some (.slice A' Y[i].length C') ∧ Y[i].length ≤ C' ∧ C' ≤ 9223372036854775807 ∧ SlR w.heap.size w A' Y[i] ∧ (Y[i] ≠ [] → ∀ ad, A' = some ad → ad.block ≠ g) ∧ w.frozen? ⟨g, off + i, none⟩ = false
theorem HB.good {d : Array (El w0 g)} (h : HB w0 wr g off d) : GoodH wr g off (d.toList.map El.row) := fun i hi => by
  simp only [List.length_map, Array.length_toList] at hi
  obtain ⟨c1, c2⟩ := h.holds i hi
  obtain ⟨A', C', h1, h2, h3, h4, _, h6⟩ := (d[i]!).row_at h.grown
  have e : (d.toList.map El.row)[i]'(by simpa using hi) = (d[i]!).row := by simp [hi]
  rw [e]
  exact ⟨A', C', by rw [c1, h1], h2, h3, h4, h6, c2⟩
theorem GoodH.keep {w w' : World} {Y : List RL.R} (h : GoodH w g off Y) (hb : Below w.heap.size w w') (hg : g < w.heap.size) : GoodH w' g off Y := fun i hi => by
  obtain ⟨A', C', h1, h2, h3, h4, h5, h6⟩ := h i hi
  exact ⟨A', C', (hb.cell (p := ⟨g, off + i, none⟩) hg).trans h1, h2, h3, h4.upB hb, h5, (hb.frozen (p := ⟨g, off + i, none⟩) hg).trans h6⟩
theorem GoodH.set {w : World} {Y : List RL.R} (h : GoodH w g off Y) {k : Nat} (hk : k < Y.length) {A' : Option Addr} {C' : Nat} (hc : Y[k].length ≤ C') (hm : C' ≤ 9223372036854775807) (hr : SlR w.heap.size w A' Y[k]) (hne : Y[k] ≠ [] → ∀ ad, A' = some ad → ad.block ≠ g) : GoodH (w.setCell ⟨g, off + k, none⟩ (.slice A' Y[k].length C')) g off Y := fun i hi => by
  obtain ⟨A2, C2, h1, h2, h3, h4, h5, h6⟩ := h i hi
  by_cases e : i = k
  · subst e
    exact ⟨A', C', World.cell?_setCell_same _ _ _ h1, hc, hm, hr.far _ (fun hy ad e => hne hy ad e), hne, by rw [World.frozen?_setCell]; exact h6⟩
  · exact ⟨A2, C2, (World.cell?_setCell_other _ _ _ _ (by intro e3; simp only [Addr.mk.injEq] at e3; omega)).trans h1, h2, h3, h4.far _ (fun hy ad e => h5 hy ad e), h5, by rw [World.frozen?_setCell]; exact h6⟩
/-- The rows of the first k headers lie behind block rb. -/
def FreshH (w : World) (g off rb : Nat) (Y : List RL.R) (k : Nat) : Prop := ∀ i (h : i < Y.length), i < k → ∀ A' n C', w.cell? ⟨g, off + i, none⟩ = some (.slice A' n C') → ∀ ad, A' = some ad → rb < ad.block
theorem FreshH.keep {w w' : World} {rb k : Nat} {Y : List RL.R} (h : FreshH w g off rb Y k) (hb : Below w.heap.size w w') (hg : g < w.heap.size) : FreshH w' g off rb Y k := fun i hi hk A' n C' hc =>
  h i hi hk A' n C' ((hb.cell (p := ⟨g, off + i, none⟩) hg).symm.trans hc)
theorem FreshH.set {w : World} {rb k : Nat} {Y : List RL.R} (h : FreshH w g off rb Y k) {A : Option Addr} {n C : Nat} {u : Value} (hu : w.cell? ⟨g, off + k, none⟩ = some u) (hf : ∀ ad, A = some ad → rb < ad.block) : FreshH (w.setCell ⟨g, off + k, none⟩ (.slice A n C)) g off rb Y (k + 1) := fun i hi hk A' n' C' hc ad e => by
  by_cases he : i = k
  · subst he
    rw [World.cell?_setCell_same _ _ _ hu] at hc
    simp at hc
    exact hf ad (by rw [hc.1]; exact e)
  · rw [World.cell?_setCell_other _ _ _ _ (by intro e3; simp only [Addr.mk.injEq] at e3; omega)] at hc
    exact h i hi (by omega) A' n' C' hc ad e
/-- Behind two stores into block rb the rows still read, and it takes only block g and the blocks from rb on. -/
theorem GoodH.final {w : World} {rb : Nat} {Y : List RL.R} (h : GoodH w g off Y) (hf : FreshH w g off rb Y Y.length) (hg : g < w.heap.size) (hne : rb ≠ g) (u0 u1 : Value) (w'' : World)
    (hk : ∀ p : Addr, p.block < ((w.setCell ⟨rb, 0, none⟩ u0).setCell ⟨rb, 1, none⟩ u1).heap.size → (rb ≤ p.block ∨ p.block = g) → w''.cell? p = ((w.setCell ⟨rb, 0, none⟩ u0).setCell ⟨rb, 1, none⟩ u1).cell? p) : SlRs ((w.setCell ⟨rb, 0, none⟩ u0).setCell ⟨rb, 1, none⟩ u1).heap.size w'' (some ⟨g, off, none⟩) Y := fun _ => ⟨g, off, rfl, by simpa using hg, fun i hi => by
  obtain ⟨A', C', h1, h2, h3, h4, _⟩ := h i hi
  refine ⟨A', C', (hk ⟨g, off + i, none⟩ (by simpa using hg) (.inr rfl)).trans (far_cell (q := ⟨g, off + i, none⟩) hne (far_cell (q := ⟨g, off + i, none⟩) hne h1)), h2, h3, ?_⟩
  have h5 := (h4.far (p := ⟨rb, 0, none⟩) u0 (fun _ ad e => by have := hf i hi hi A' _ C' h1 ad e; show ad.block ≠ rb; omega)).far (p := ⟨rb, 1, none⟩) u1 (fun _ ad e => by have := hf i hi hi A' _ C' h1 ad e; show ad.block ≠ rb; omega)
  intro hn
  obtain ⟨b, o, e, hb, hc⟩ := h5 hn
  refine ⟨b, o, e, hb, fun q u hu => (hk ⟨b, o + q, none⟩ hb (.inl ?_)).trans (hc q u hu)⟩
  have := hf i hi hi A' _ C' h1 _ e
  simp only at this ⊢
  omega⟩
theorem GoodH.sl {w : World} {Y : List RL.R} (h : GoodH w g off Y) (hg : g < w.heap.size) : SlRs w.heap.size w (some ⟨g, off, none⟩) Y := fun _ => ⟨g, off, rfl, hg, fun i hi => by
  obtain ⟨A', C', h1, h2, h3, h4, _⟩ := h i hi
  exact ⟨A', C', h1, h2, h3, h4⟩⟩
end

theorem compact_small (A : Option Addr) (n cap : Nat) (fv : Value) (w : World) (h : n < 2) : Calls Try.prog 81 #[.slice A n cap, fv] w fun e w' => e = .returned (.slice A n cap) ∧ w' = w := by
  have h' : (n : Int) < 2 := by omega
  clear h
  go_enter Try.func81, Try.ntmps81
  go_wp2
  go_ret
  exact ⟨rfl, rfl⟩

/-- CompactFunc of an ascending list of at least one row: the set of its rows. -/
theorem compactAsc_any {w0 w : World} {g off : Nat} {d : Array (El w0 g)} (cap : Nat) (h : HB w0 w g off d) (hsz : d.size ≤ 1000000) (h1 : 1 ≤ d.size) (hcap : d.size ≤ cap) (hcm : cap ≤ 9223372036854775807) (ha : Asc (d.toList.map El.row)) :
    Calls Try.prog 81 #[.slice (some ⟨g, off, none⟩) d.size cap, .func (.func 73) #[] #[]] w fun e w' => ∃ l : List (El w0 g), e = .returned (.slice (some ⟨g, off, none⟩) (RL.ofF (d.toList.map El.row)).length cap) ∧ l.map El.row = RL.ofF (d.toList.map El.row) ∧ HB w0 w' g off l.toArray := by
  have key : (keptUpTo (kpR d) d d.size).map El.row = RL.ofF (d.toList.map El.row) := by
    have hd := RL.dedup_ss (X := d.toList.map El.row) ha (kpR d) (fun j hj => by
      simp only [List.length_map, Array.length_toList] at hj
      have e1 : (d.toList.map El.row)[j]'(by simpa using hj) = (d[j]!).row := by simp [hj]
      have hj1 : j - 1 < d.size := by omega
      have e2 : (d.toList.map El.row)[j - 1]'(by simpa using hj1) = (d[j - 1]!).row := by simp [hj1]
      rw [e1, e2]; rfl)
    have e : (keptUpTo (kpR d) d d.size).map El.row = ((List.range (d.toList.map El.row).length).filter (kpR d)).map (fun j => (d.toList.map El.row).getD j []) := by
      unfold keptUpTo
      rw [List.map_map]
      simp only [List.length_map, Array.length_toList]
      refine List.map_congr_left fun j hj => ?_
      rw [List.mem_filter, List.mem_range] at hj
      simp [hj.1]
    rw [e]
    exact (RL.ofF_eq hd.1 hd.2).symm
  by_cases h2 : 2 ≤ d.size
  · refine Calls.mono (compactRows_any cap h hsz h2 hcap hcm) fun e w' ⟨l, g1, g2, g3⟩ => ⟨l, ?_, by rw [g2]; exact key, g3⟩
    rw [g1, ← key, g2, List.length_map]
  · have hs : d.size = 1 := by omega
    refine Calls.mono (compact_small (some ⟨g, off, none⟩) d.size cap _ w (by omega)) fun e w' ⟨g1, g2⟩ => ?_
    have e1 : d.toList = keptUpTo (kpR d) d d.size := by
      rw [keptUpTo_all _ _ _ (fun j hj => by simp [kpR]; omega)]
      apply List.ext_getElem (by simp)
      intro i h1 h2
      simp at h1
      simp [h1]
    refine ⟨d.toList, ?_, (congrArg (List.map El.row) e1).trans key, by subst g2; simpa using h⟩
    rw [g1, ← key, List.length_map, ← e1, Array.length_toList]

set_option maxHeartbeats 2000000 in
set_option maxRecDepth 100000 in
theorem rlBuild_any {w : World} {g : Nat} {d : Array (El w g)} (ar : Int) (cap : Nat) (h : HB w w g 0 d) (hsz : d.size ≤ 60000) (h1 : 1 ≤ d.size) (hcap : d.size ≤ cap) (hcm : cap ≤ 9223372036854775807) (X : List RL.R) (hX : X = d.toList.map El.row) :
    Calls Try.prog 59 #[.int .i64 ar, .slice (some ⟨g, 0, none⟩) d.size cap] w fun e w' => e = .returned (.tuple #[.agg #[.int .i64 ar, .slice (some ⟨g, 0, none⟩) (RL.ofF X).length cap], .int .i64 0]) ∧ (∀ w'', (∀ p : Addr, p.block < w'.heap.size → (w.heap.size ≤ p.block ∨ p.block = g) → w''.cell? p = w'.cell? p) → SlRs w'.heap.size w'' (some ⟨g, 0, none⟩) (RL.ofF X)) ∧ w.grownBy w' (some g) := by
  subst hX
  have hlen := RL.ofF_length_le (d.toList.map El.row)
  simp only [List.length_map, Array.length_toList] at hlen
  obtain ⟨rb, hrb⟩ : ∃ rb, rb = w.heap.size := ⟨_, rfl⟩
  have HW : Hid (HB (w.alloc (.cells #[.int .i64 0, .slice none 0 0] 29)) (w.alloc (.cells #[.int .i64 0, .slice none 0 0] 29)) g 0 (d.map (El.lift (h.ext ((Ext.refl w).alloc (.cells #[.int .i64 0, .slice none 0 0] 29))).grown))) := HB.lift (h.ext ((Ext.refl w).alloc _))
  have HR := Lib.hid (lift_rows (d := d) (h.ext ((Ext.refl w).alloc (.cells #[.int .i64 0, .slice none 0 0] 29))).grown)
  have hds : (d.map (El.lift (h.ext ((Ext.refl w).alloc (.cells #[.int .i64 0, .slice none 0 0] 29))).grown)).size = d.size := by simp
  generalize d.map (El.lift (h.ext ((Ext.refl w).alloc (.cells #[.int .i64 0, .slice none 0 0] 29))).grown) = d1 at HW HR hds
  have gl := HW.out.lt'
  have hg : g < w.heap.size := h.lt
  have HG : Hid (w.grownBy (w.alloc (.cells #[.int .i64 0, .slice none 0 0] 29)) (some g)) := (h.ext ((Ext.refl w).alloc _)).grown
  have hrow := Row.new w 29 [.int .i64 0, .slice none 0 0]
  rw [← hrb] at hrow
  have hz1 : (w.alloc (.cells #[.int .i64 0, .slice none 0 0] 29)).heap.size = rb + 1 := by rw [hrb]; simp
  have HROW := Lib.hid hrow
  have hne : rb ≠ g := by omega
  clear h hrow
  have HOK : Hid (RsOk (RL.ofF (d.toList.map El.row))) := fun x hx => by
    rw [RL.mem_ofF] at hx
    obtain ⟨e, _, rfl⟩ := List.mem_map.1 hx
    obtain ⟨A', C', _, _, _, _, h5, _⟩ := e.ok
    exact h5
  generalize hxx : d.toList.map El.row = X at *
  clear hxx
  -- the calls
  have HIS := Lib.hid (isSortedRows_any cap HW.out (by omega))
  have HSO := Lib.hid (fun (W : World) hB => sortRows_any (wr := W) (off := 0) cap (d := d1) hB (by omega))
  have HCO : Hid (∀ (W : World) (d2 : Array (El (w.alloc (.cells #[.int .i64 0, .slice none 0 0] 29)) g)), HB (w.alloc (.cells #[.int .i64 0, .slice none 0 0] 29)) W g 0 d2 → d2.size = d.size → (d2.toList.map El.row).Perm (d1.toList.map El.row) → Asc (d2.toList.map El.row) →
      Calls Try.prog 81 #[.slice (some ⟨g, 0, none⟩) d.size cap, .func (.func 73) #[] #[]] W fun e w' => ∃ l : List (El (w.alloc (.cells #[.int .i64 0, .slice none 0 0] 29)) g), e = .returned (.slice (some ⟨g, 0, none⟩) (RL.ofF X).length cap) ∧ l.map El.row = RL.ofF X ∧ HB (w.alloc (.cells #[.int .i64 0, .slice none 0 0] 29)) w' g 0 l.toArray) := fun W d2 hB hs hp ha => by
    have hc := compactAsc_any cap hB (by omega) (by omega) (by omega) hcm ha
    have e1 : RL.ofF (d2.toList.map El.row) = RL.ofF X := RL.ofF_eq (RL.SS.of X) fun r => by rw [RL.mem_ofF, hp.mem_iff, HR.out]
    rw [e1, hs] at hc
    exact hc
  rw [hds] at HIS HSO
  have HDS := Lib.hid hds
  clear hds
  go_enter Try.func59, Try.ntmps59
  go_wp2_with fail
  refine HIS.out.mono ?_
  rintro e w2 ⟨c, rfl, hasc, hB2⟩
  have HB2 := Lib.hid hB2
  clear hB2 HIS
  cases c
  · clear hasc
    go_wp2_with fail
    refine (HSO.out _ HB2.out).mono ?_
    rintro e w3 ⟨d2, rfl, hs2, hp2, ha2, hB3⟩
    have HB3 := Lib.hid hB3
    have HP2 := Lib.hid hp2
    have HA2 := Lib.hid ha2
    have HS2 := Lib.hid hs2
    clear hB3 hp2 ha2 hs2 HB2
    go_wp2_with fail
    refine (HCO.out _ d2 HB3.out HS2.out HP2.out HA2.out).mono ?_
    rintro e w4 ⟨l, rfl, hl, hB4⟩
    have HGD : Hid (GoodH w4 g 0 (RL.ofF X)) := by
      have h := hB4.good
      simp only [] at h
      rw [hl] at h
      exact h
    have HR4 := Lib.hid (HROW.out.grown hB4.grown (fun e => hne (by injection e)))
    have HG4 : Hid (w.grownBy w4 (some g)) := ⟨hB4.grown.os, hB4.grown.tape, hB4.grown.output, Nat.le_trans (by simp) hB4.grown.size, fun k hk hkn => (hB4.grown.block k (by simp; omega) hkn).trans (Below.heap_alloc w _ k hk)⟩
    have HGL := hB4.lt'
    have hrl4 := HR4.out.lt
    clear hB4 hl HB3 HP2 HA2 HS2 HCO HSO HROW HG HW HR
    go_wp2
    go_loopw [20] (fun i wr => ∃ k : Nat, k ≤ (RL.ofF X).length ∧ i = .int .i64 k ∧ GoodH wr g 0 (RL.ofF X) ∧ FreshH wr g 0 rb (RL.ofF X) k ∧ Row wr rb 29 [.int .i64 0, .slice none 0 0] ∧ g < wr.heap.size ∧ w.grownBy wr (some g)) (fun i _ => (RL.ofF X).length - (intOf i).toNat)
    case atStart => exact ⟨0, Nat.zero_le _, rfl, HGD.out, fun i _ h => absurd h (by omega), HR4.out, HGL, HG4.out⟩
    case round =>
      obtain ⟨k, hk, rfl, hgd, hfh, hrw, hgl, hgr⟩ := hrel
      have HGD2 := Lib.hid hgd
      have HFH := Lib.hid hfh
      clear hfh
      have HRW := Lib.hid hrw
      have HGR := Lib.hid hgr
      have hrl := hrw.lt
      clear HGD HR4 HG4
      by_cases hlt : k < (RL.ofF X).length
      · obtain ⟨A1, C1, c1, hc1, hm1, s1, n1, f1⟩ := hgd k hlt
        rw [Nat.zero_add] at c1 f1
        have HC := Lib.hid (cloneRow_any A1 C1 (RL.ofF X)[k] wr s1 (HOK.out _ (List.getElem_mem hlt)).1)
        generalize hxl : (RL.ofF X)[k].length = xl at c1
        have HXL := Lib.hid hxl
        rw [hxl] at HC
        clear hgd hrw hgr s1 n1 hc1 hm1 hxl
        go_wp2_with fail
        refine HC.out.mono ?_
        rintro e w5 ⟨v5, rfl, hown5, hb5⟩
        rw [← HXL.out] at hown5
        obtain ⟨-, A2, C2, rfl, hc2, hm2, hs2, hfr⟩ := SlR.of_own hown5
        have HS5 := Lib.hid ((HGD2.out.keep hb5 hgl).set hlt hc2 hm2 hs2 (fun _ ad e => by have := hfr ad e; omega))
        have HR5 := Lib.hid ((HRW.out.below hb5 hrl).far (p := ⟨g, k, none⟩) hne (.slice A2 (RL.ofF X)[k].length C2))
        have hz5 := hb5.size
        have c5 := (hb5.cell (p := ⟨g, k, none⟩) hgl).trans c1
        have f5 := (hb5.frozen (p := ⟨g, k, none⟩) hgl).trans f1
        have HG5 : Hid (w.grownBy (w5.setCell ⟨g, k, none⟩ (.slice A2 (RL.ofF X)[k].length C2)) (some g)) := ⟨hb5.os.trans HGR.out.os, hb5.tape.trans HGR.out.tape, hb5.output.trans HGR.out.output, by simpa using Nat.le_trans HGR.out.size hb5.size, fun j hj hjn => by
          rw [Below.heap_setCell _ _ _ _ (fun e => hjn (by rw [e]))]
          exact (hb5.block j (Nat.lt_of_lt_of_le hj HGR.out.size)).trans (HGR.out.block j hj hjn)⟩
        have HF5 := Lib.hid ((HFH.out.keep hb5 hgl).set (A := A2) (n := (RL.ofF X)[k].length) (C := C2) (by rw [Nat.zero_add]; exact c5) (fun ad e => by have := hfr ad e; omega))
        rw [Nat.zero_add] at HS5 HF5
        rw [HXL.out] at HS5 HR5 HG5 HF5 ⊢
        clear hown5 hb5 hs2 hfr HC c1 f1 HGD2 HRW HGR
        go_wp2
        go_roundw
        case rel => exact ⟨k + 1, by omega, by go_num, HS5.out, HF5.out, HR5.out, by simp; omega, HG5.out⟩
        case measure => simp [intOf]; omega
      · subst hrb
        have r0 := hrw.cell 0
        have r1 := hrw.cell 1
        have f0 := hrw.frozen 0
        have f1 := hrw.frozen 1
        simp only [List.getElem?_cons_zero, List.getElem?_cons_succ] at r0 r1
        have hke : k = (RL.ofF X).length := by omega
        have HSL := Lib.hid (hgd.final (rb := w.heap.size) (by rw [← hke]; exact HFH.out) hgl hne (.int .i64 ar) (.slice (some ⟨g, 0, none⟩) (RL.ofF X).length cap))
        have HG6 : Hid (w.grownBy ((wr.setCell ⟨w.heap.size, 0, none⟩ (.int .i64 ar)).setCell ⟨w.heap.size, 1, none⟩ (.slice (some ⟨g, 0, none⟩) (RL.ofF X).length cap)) (some g)) := ⟨hgr.os, hgr.tape, hgr.output, by simpa using hgr.size, fun j hj hjn => by
          rw [Below.heap_setCell _ _ _ _ (fun e => by simp only at e; omega), Below.heap_setCell _ _ _ _ (fun e => by simp only at e; omega)]
          exact hgr.block j hj hjn⟩
        have z0 : (wr.setCell ⟨w.heap.size, 0, none⟩ (.int .i64 ar)).cell? ⟨w.heap.size, 0, none⟩ = some (.int .i64 ar) := World.cell?_setCell_same _ _ _ r0
        have z1 : ((wr.setCell ⟨w.heap.size, 0, none⟩ (.int .i64 ar)).setCell ⟨w.heap.size, 1, none⟩ (.slice (some ⟨g, 0, none⟩) (RL.ofF X).length cap)).cell? ⟨w.heap.size, 1, none⟩ = some (.slice (some ⟨g, 0, none⟩) (RL.ofF X).length cap) := World.cell?_setCell_same _ _ _ ((World.cell?_setCell_other _ _ _ _ (by simp)).trans r1)
        have Z0 := Lib.hid z0
        have Z1 := Lib.hid z1
        clear hgd hrw z0 z1 hke
        go_wp2
        exact bodyPost_ret (v := .tuple #[.agg #[.int .i64 ar, .slice (some ⟨g, 0, none⟩) (RL.ofF X).length cap], .int .i64 0]) (by simp [results, Try.results59, go_sem, Z0.out, Z1.out]) rfl ⟨rfl, HSL.out, HG6.out⟩
  · obtain ⟨d2, hd2⟩ : ∃ d2, d2 = d1 := ⟨_, rfl⟩
    subst hd2
    have HA2 := Lib.hid (hasc rfl)
    have HP2 := Lib.hid (List.Perm.refl (d2.toList.map El.row))
    have HS2 := Lib.hid HDS.out
    obtain ⟨w3, hw3⟩ : ∃ w3, w3 = w2 := ⟨_, rfl⟩
    subst hw3
    have HB3 := Lib.hid HB2.out
    clear hasc HB2
    go_wp2_with fail
    refine (HCO.out _ d2 HB3.out HS2.out HP2.out HA2.out).mono ?_
    rintro e w4 ⟨l, rfl, hl, hB4⟩
    have HGD : Hid (GoodH w4 g 0 (RL.ofF X)) := by
      have h := hB4.good
      simp only [] at h
      rw [hl] at h
      exact h
    have HR4 := Lib.hid (HROW.out.grown hB4.grown (fun e => hne (by injection e)))
    have HG4 : Hid (w.grownBy w4 (some g)) := ⟨hB4.grown.os, hB4.grown.tape, hB4.grown.output, Nat.le_trans (by simp) hB4.grown.size, fun k hk hkn => (hB4.grown.block k (by simp; omega) hkn).trans (Below.heap_alloc w _ k hk)⟩
    have HGL := hB4.lt'
    have hrl4 := HR4.out.lt
    clear hB4 hl HB3 HP2 HA2 HS2 HCO HSO HROW HG HW HR
    go_wp2
    go_loopw [20] (fun i wr => ∃ k : Nat, k ≤ (RL.ofF X).length ∧ i = .int .i64 k ∧ GoodH wr g 0 (RL.ofF X) ∧ FreshH wr g 0 rb (RL.ofF X) k ∧ Row wr rb 29 [.int .i64 0, .slice none 0 0] ∧ g < wr.heap.size ∧ w.grownBy wr (some g)) (fun i _ => (RL.ofF X).length - (intOf i).toNat)
    case atStart => exact ⟨0, Nat.zero_le _, rfl, HGD.out, fun i _ h => absurd h (by omega), HR4.out, HGL, HG4.out⟩
    case round =>
      obtain ⟨k, hk, rfl, hgd, hfh, hrw, hgl, hgr⟩ := hrel
      have HGD2 := Lib.hid hgd
      have HFH := Lib.hid hfh
      clear hfh
      have HRW := Lib.hid hrw
      have HGR := Lib.hid hgr
      have hrl := hrw.lt
      clear HGD HR4 HG4
      by_cases hlt : k < (RL.ofF X).length
      · obtain ⟨A1, C1, c1, hc1, hm1, s1, n1, f1⟩ := hgd k hlt
        rw [Nat.zero_add] at c1 f1
        have HC := Lib.hid (cloneRow_any A1 C1 (RL.ofF X)[k] wr s1 (HOK.out _ (List.getElem_mem hlt)).1)
        generalize hxl : (RL.ofF X)[k].length = xl at c1
        have HXL := Lib.hid hxl
        rw [hxl] at HC
        clear hgd hrw hgr s1 n1 hc1 hm1 hxl
        go_wp2_with fail
        refine HC.out.mono ?_
        rintro e w5 ⟨v5, rfl, hown5, hb5⟩
        rw [← HXL.out] at hown5
        obtain ⟨-, A2, C2, rfl, hc2, hm2, hs2, hfr⟩ := SlR.of_own hown5
        have HS5 := Lib.hid ((HGD2.out.keep hb5 hgl).set hlt hc2 hm2 hs2 (fun _ ad e => by have := hfr ad e; omega))
        have HR5 := Lib.hid ((HRW.out.below hb5 hrl).far (p := ⟨g, k, none⟩) hne (.slice A2 (RL.ofF X)[k].length C2))
        have hz5 := hb5.size
        have c5 := (hb5.cell (p := ⟨g, k, none⟩) hgl).trans c1
        have f5 := (hb5.frozen (p := ⟨g, k, none⟩) hgl).trans f1
        have HG5 : Hid (w.grownBy (w5.setCell ⟨g, k, none⟩ (.slice A2 (RL.ofF X)[k].length C2)) (some g)) := ⟨hb5.os.trans HGR.out.os, hb5.tape.trans HGR.out.tape, hb5.output.trans HGR.out.output, by simpa using Nat.le_trans HGR.out.size hb5.size, fun j hj hjn => by
          rw [Below.heap_setCell _ _ _ _ (fun e => hjn (by rw [e]))]
          exact (hb5.block j (Nat.lt_of_lt_of_le hj HGR.out.size)).trans (HGR.out.block j hj hjn)⟩
        have HF5 := Lib.hid ((HFH.out.keep hb5 hgl).set (A := A2) (n := (RL.ofF X)[k].length) (C := C2) (by rw [Nat.zero_add]; exact c5) (fun ad e => by have := hfr ad e; omega))
        rw [Nat.zero_add] at HS5 HF5
        rw [HXL.out] at HS5 HR5 HG5 HF5 ⊢
        clear hown5 hb5 hs2 hfr HC c1 f1 HGD2 HRW HGR
        go_wp2
        go_roundw
        case rel => exact ⟨k + 1, by omega, by go_num, HS5.out, HF5.out, HR5.out, by simp; omega, HG5.out⟩
        case measure => simp [intOf]; omega
      · subst hrb
        have r0 := hrw.cell 0
        have r1 := hrw.cell 1
        have f0 := hrw.frozen 0
        have f1 := hrw.frozen 1
        simp only [List.getElem?_cons_zero, List.getElem?_cons_succ] at r0 r1
        have hke : k = (RL.ofF X).length := by omega
        have HSL := Lib.hid (hgd.final (rb := w.heap.size) (by rw [← hke]; exact HFH.out) hgl hne (.int .i64 ar) (.slice (some ⟨g, 0, none⟩) (RL.ofF X).length cap))
        have HG6 : Hid (w.grownBy ((wr.setCell ⟨w.heap.size, 0, none⟩ (.int .i64 ar)).setCell ⟨w.heap.size, 1, none⟩ (.slice (some ⟨g, 0, none⟩) (RL.ofF X).length cap)) (some g)) := ⟨hgr.os, hgr.tape, hgr.output, by simpa using hgr.size, fun j hj hjn => by
          rw [Below.heap_setCell _ _ _ _ (fun e => by simp only at e; omega), Below.heap_setCell _ _ _ _ (fun e => by simp only at e; omega)]
          exact hgr.block j hj hjn⟩
        have z0 : (wr.setCell ⟨w.heap.size, 0, none⟩ (.int .i64 ar)).cell? ⟨w.heap.size, 0, none⟩ = some (.int .i64 ar) := World.cell?_setCell_same _ _ _ r0
        have z1 : ((wr.setCell ⟨w.heap.size, 0, none⟩ (.int .i64 ar)).setCell ⟨w.heap.size, 1, none⟩ (.slice (some ⟨g, 0, none⟩) (RL.ofF X).length cap)).cell? ⟨w.heap.size, 1, none⟩ = some (.slice (some ⟨g, 0, none⟩) (RL.ofF X).length cap) := World.cell?_setCell_same _ _ _ ((World.cell?_setCell_other _ _ _ _ (by simp)).trans r1)
        have Z0 := Lib.hid z0
        have Z1 := Lib.hid z1
        clear hgd hrw z0 z1 hke
        go_wp2
        exact bodyPost_ret (v := .tuple #[.agg #[.int .i64 ar, .slice (some ⟨g, 0, none⟩) (RL.ofF X).length cap], .int .i64 0]) (by simp [results, Try.results59, go_sem, Z0.out, Z1.out]) rfl ⟨rfl, HSL.out, HG6.out⟩

end Go.Proofs.Ytiopkooigeaneaa

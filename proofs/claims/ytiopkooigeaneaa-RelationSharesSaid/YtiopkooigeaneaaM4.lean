/- Walk: the law RelationShares. -/
import Derived.Test.YtiopkooigeaneaaV23
import Derived.Test.YtiopkooigeaneaaM2
namespace Go.Proofs.Ytiopkooigeaneaa
open Go.RowKit Go.Sort

/-- A row of n values that may be overwritten, in blocks from B on, none of it in block g. -/
def WrRow (B g : Nat) (w : World) (A : Option Addr) (n : Nat) : Prop :=
  n ≠ 0 → ∃ b o, A = some ⟨b, o, none⟩ ∧ B ≤ b ∧ b ≠ g ∧ ∀ j, j < n * 3 → (∃ v, w.cell? ⟨b, o + j, none⟩ = some v) ∧ w.frozen? ⟨b, o + j, none⟩ = false
theorem cell_some_set {w : World} {p q : Addr} (u : Value) (h : ∃ v, w.cell? q = some v) : ∃ v, (w.setCell p u).cell? q = some v := by
  obtain ⟨v, hv⟩ := h
  by_cases e : p = q
  · subst e; exact ⟨u, World.cell?_setCell_same _ _ _ hv⟩
  · exact ⟨v, (World.cell?_setCell_other _ _ _ _ (fun e2 => e e2)).trans hv⟩
theorem WrRow.set {B g : Nat} {w : World} {A : Option Addr} {n : Nat} (h : WrRow B g w A n) (p : Addr) (u : Value) : WrRow B g (w.setCell p u) A n := fun hn => by
  obtain ⟨b, o, e, h1, h2, h3⟩ := h hn
  exact ⟨b, o, e, h1, h2, fun j hj => ⟨cell_some_set u (h3 j hj).1, by rw [World.frozen?_setCell]; exact (h3 j hj).2⟩⟩
/-- A list of such rows, its headers in block g. -/
def WrAll (B g : Nat) (w : World) (Y : List RL.R) : Prop :=
  ∃ hs, Row w g 24 hs ∧ ∀ i (h : i < Y.length), ∃ A' C', hs[i]? = some (.slice A' Y[i].length C') ∧ WrRow B g w A' Y[i].length
theorem WrAll.set {B g : Nat} {w : World} {Y : List RL.R} (h : WrAll B g w Y) {p : Addr} (hp : g ≠ p.block) (u : Value) : WrAll B g (w.setCell p u) Y := by
  obtain ⟨hs, h1, h2⟩ := h
  refine ⟨hs, h1.far hp u, fun i hi => ?_⟩
  obtain ⟨A', C', h3, h4⟩ := h2 i hi
  exact ⟨A', C', h3, h4.set p u⟩
theorem MadeRs.wr {w : World} {g B : Nat} {Y : List RL.R} (h : MadeRs w g 24 Y Y.length B) : WrAll B g w Y := by
  obtain ⟨hs, h1, h2, h3, h4⟩ := h
  refine ⟨hs, h1, fun i hi => ?_⟩
  obtain ⟨A', C', g1, g2, g3, g4, g5⟩ := h4 i hi hi
  refine ⟨A', C', g1, fun hn => ?_⟩
  have hy : Y[i] ≠ [] := fun e => hn (by rw [e]; rfl)
  obtain ⟨b, o, e, hb, hc⟩ := g4 (ne_rcells hy)
  obtain ⟨k1, k2, k3⟩ := g5 hy _ e
  refine ⟨b, o, e, k2, k1, fun j hj => ⟨?_, k3 _⟩⟩
  have hj' : j < (rcells Y[i]).length := by rw [rcells_length]; exact hj
  exact ⟨_, hc j _ (List.getElem?_eq_getElem hj')⟩
theorem WrRow.of_own {w : World} {base B g n C : Nat} {A : Option Addr} {x : RL.R} (h : w.ownsRow base 60 3 (.slice A n C) n (rcells x)) (hx : n = x.length) (hs : SlR w.heap.size w A x) (hB : B ≤ base) (hg : g < B) : WrRow B g w A n := fun hn => by
  subst hx
  have hy : x ≠ [] := fun e => hn (by rw [e]; rfl)
  obtain ⟨b, o, e, hb, hc⟩ := hs (ne_rcells hy)
  have hbase := own_base h (k := b) (by rw [e]; rfl)
  refine ⟨b, o, e, by omega, by omega, fun j hj => ⟨?_, own_frozen h _ e _⟩⟩
  have hj' : j < (rcells x).length := by rw [rcells_length]; exact hj
  exact ⟨_, hc j _ (List.getElem?_eq_getElem hj')⟩

theorem rank_ins (Y : List RL.R) (x : RL.R) : RL.rank (RL.insF Y x) x = RL.rank Y x := by
  unfold RL.insF
  split
  · rfl
  · have h0 : ¬ RL.cmpR x x < 0 := by rw [RL.tot_cmpR.self]; omega
    conv => rhs; unfold RL.rank; rw [← List.take_append_drop (RL.rank Y x) Y, List.countP_append]
    conv => lhs; unfold RL.rank; rw [List.countP_append, List.countP_cons_of_neg (by simpa using h0)]
    rfl

def x77 : RL.R := intR [77, 0]
theorem x77_ok : ROk x77 := ROk_int _ (by simp)
theorem x77_wrong : wrongF 2 x77 = 0 := by decide +kernel
theorem x77_sl {w : World} {g : Nat} (h : Row w g 60 [.int .i64 1, .int .i64 77, .string ⟨#[]⟩, .int .i64 1, .int .i64 0, .string ⟨#[]⟩]) : SlR w.heap.size w (some ⟨g, 0, none⟩) x77 := h.sl

set_option maxHeartbeats 4000000 in
set_option maxRecDepth 100000 in
theorem shares_walk (A : Option Addr) (C : Nat) (X : List RL.R) (w : World) (hX : SlRs w.heap.size w A X) (hbX : BigRs X) :
    Calls Try.prog 6 #[.slice A X.length C] w fun e w' => e = .returned (.bool true) ∧ Below w.heap.size w w' := by
  have HX := Lib.hid hX
  have HG := Lib.hid (l7Great_any A C X w hX (by have := hbX.1; omega) hbX.2)
  clear hX hbX
  go_enter Try.func6, Try.ntmps6
  go_wp2_with fail
  refine HG.out.mono ?_
  rintro e w1 ⟨rfl, hx1⟩
  have HB1 := Lib.hid hx1.below
  clear hx1 HG
  cases hgr : greatF X
  rotate_left
  · clear hgr
    go_wp2_with fail
    refine (l7awake_any _).mono ?_
    rintro e w5 ⟨rfl, hb5⟩
    have HB5 := Lib.hid (Below.then HB1.out hb5 HB1.out.size)
    clear hb5
    go_wp2
    go_ret
    exact ⟨rfl, HB5.out⟩
  obtain ⟨g1, g2, -⟩ := greatF_false hgr
  have HOK := Lib.hid g2
  clear g2 hgr
  go_wp2_with fail
  refine (l7made_any 2 A C X w1 (by omega) (by omega) ((HX.out.below HB1.out (Nat.le_refl _)).more HB1.out.size) HOK.out (by omega)).mono ?_
  rintro e w2 ⟨rv, mv, rfl, ⟨RA, RC, rfl, hrc1, hrc2, hrs⟩, ⟨MA, MC, rfl, hmc1, hmc2, hms⟩, hb2⟩
  have hyl := Nat.le_trans (RL.ofF_length_le (validR 2 X)) (validR_length _ X)
  have HYO : Hid (RsOk (RL.ofF (validR 2 X))) := HOK.out.of_mem (fun y hy => validR_sub _ X y ((RL.mem_ofF _ _).1 hy))
  have HLEN : Hid (∀ x ∈ RL.ofF (validR 2 X), x.length ≤ 1000000) := fun x hx => (HYO.out x hx).1
  have HSS := Lib.hid (RL.SS.of (validR 2 X))
  generalize RL.ofF (validR 2 X) = Y at *
  have HB2 := Lib.hid (Below.then (Below.then HB1.out hb2 HB1.out.size) ((Below.refl _ w2).alloc (Nat.le_refl _) (.cells #[.int .i64 2, .slice RA Y.length RC] 29)) (by have := hb2.size; have := HB1.out.size; omega))
  have HRS := Lib.hid (hrs.alloc1 (.cells #[.int .i64 2, .slice RA Y.length RC] 29))
  have HMS := Lib.hid (hms.alloc1 (.cells #[.int .i64 2, .slice RA Y.length RC] 29))
  have HRB := Lib.hid (Row.new w2 29 [.int .i64 2, .slice RA Y.length RC])
  clear hrs hms hb2 HB1
  go_wp2_with fail
  have hzr := HRB.out.lt
  generalize hrb : w2.heap.size = rb at *
  generalize w2.alloc (.cells #[.int .i64 2, .slice RA Y.length RC] 29) = W2 at *
  clear hrb
  refine (rlRows_any 2 RA RC Y W2 HRS.out HYO.out (by omega)).mono ?_
  rintro e w3 ⟨g, rfl, hm3, hb3⟩
  have HW3 := Lib.hid hm3.wr
  have HB3 := Lib.hid hb3
  have hgB : W2.heap.size ≤ g := by obtain ⟨hs, _, _, h, _⟩ := hm3; exact h
  clear hm3 hb3
  go_wp2
  go_loopw [33] (fun i wr => ∃ k : Nat, k ≤ Y.length ∧ i = .int .i64 k ∧ WrAll W2.heap.size g wr Y ∧ Below W2.heap.size W2 wr) (fun i _ => Y.length - (intOf i).toNat)
  case atStart => exact ⟨0, Nat.zero_le _, rfl, HW3.out, HB3.out⟩
  case round =>
    obtain ⟨k, hka, rfl, hwr, hbel⟩ := hrel
    have HW := Lib.hid hwr
    have HB := Lib.hid hbel
    clear HW3 HB3 hwr hbel
    by_cases h1 : k < Y.length
    · have hw := HW.out
      obtain ⟨hs, hrow, hall⟩ := hw
      obtain ⟨A', C', hk1, hk2⟩ := hall k h1
      have d1 : wr.cell? ⟨g, k, none⟩ = some (.slice A' Y[k].length C') := by rw [hrow.cell]; exact hk1
      have HK2 := Lib.hid hk2
      have hlk := HLEN.out Y[k] (List.getElem_mem h1)
      clear hrow hall hk1 hk2
      generalize Y[k].length = n at d1 HK2 hlk
      obtain ⟨wo, hwo⟩ : ∃ wo, wo = wr := ⟨_, rfl⟩
      subst hwo
      go_wp2
      go_loopw [39] (fun i wr2 => ∃ j : Nat, j ≤ n ∧ i = .int .i64 j ∧ WrAll W2.heap.size g wr2 Y ∧ WrRow W2.heap.size g wr2 A' n ∧ Below W2.heap.size W2 wr2) (fun i _ => n - (intOf i).toNat)
      case atStart => exact ⟨0, Nat.zero_le _, rfl, HW.out, HK2.out, HB.out⟩
      case round =>
        obtain ⟨j, hja, rfl, hwr2, hrow2, hbel2⟩ := hrel
        have HW2 := Lib.hid hwr2
        have HR2 := Lib.hid hrow2
        have HB2b := Lib.hid hbel2
        clear hwr2 hrow2 hbel2 HW HK2 HB d1
        by_cases h2 : j < n
        · obtain ⟨b, o, rfl, hbB, hbg, hcell⟩ := HR2.out (by omega)
          obtain ⟨⟨v0, e0⟩, f0⟩ := hcell (j * 3) (by omega)
          obtain ⟨⟨v1, e1⟩, f1⟩ := hcell (j * 3 + 1) (by omega)
          obtain ⟨⟨v2, e2⟩, f2⟩ := hcell (j * 3 + 2) (by omega)
          rw [← Nat.add_assoc] at e1 f1 e2 f2
          have HW3 := Lib.hid (((HW2.out.set (p := ⟨b, o + j * 3, none⟩) (fun e => hbg e.symm) (.int .i64 0)).set (p := ⟨b, o + j * 3 + 1, none⟩) (fun e => hbg e.symm) (.int .i64 0)).set (p := ⟨b, o + j * 3 + 2, none⟩) (fun e => hbg e.symm) (.string ⟨#[]⟩))
          have HR3 := Lib.hid (((HR2.out.set ⟨b, o + j * 3, none⟩ (.int .i64 0)).set ⟨b, o + j * 3 + 1, none⟩ (.int .i64 0)).set ⟨b, o + j * 3 + 2, none⟩ (.string ⟨#[]⟩))
          have HB3 := Lib.hid (((HB2b.out.setCell (p := ⟨b, o + j * 3, none⟩) hbB (.int .i64 0)).setCell (p := ⟨b, o + j * 3 + 1, none⟩) hbB (.int .i64 0)).setCell (p := ⟨b, o + j * 3 + 2, none⟩) hbB (.string ⟨#[]⟩))
          clear hcell
          go_wp2
          go_roundw
          case rel => exact ⟨j + 1, by omega, by go_num, HW3.out, HR3.out, HB3.out⟩
          case measure => simp [intOf]; omega
        · go_wp2
          go_roundw
          case rel => exact ⟨k + 1, by omega, by go_num, HW2.out, HB2b.out⟩
          case measure => simp [intOf]; omega
    · clear HW hgB
      have r0 : wr.cell? ⟨rb, 0, none⟩ = some (.int .i64 2) := (HB.out.cell (p := ⟨rb, 0, none⟩) hzr).trans (HRB.out.cell 0)
      have r1 : wr.cell? ⟨rb, 1, none⟩ = some (.slice RA Y.length RC) := (HB.out.cell (p := ⟨rb, 1, none⟩) hzr).trans (HRB.out.cell 1)
      go_wp2_with fail
      refine (rlLen_any 2 RA Y.length RC wr).mono ?_
      rintro e w4 ⟨rfl, hx4⟩
      have HB4 := Lib.hid (Below.then HB.out hx4.below HB.out.size)
      clear hx4 r0 r1 HB
      go_wp2
      go_loopw [50] (fun i wr => ∃ k : Nat, k ≤ Y.length ∧ i = .int .i64 k ∧ Below W2.heap.size W2 wr) (fun i _ => Y.length - (intOf i).toNat)
      case atStart => exact ⟨0, Nat.zero_le _, rfl, HB4.out⟩
      case round =>
        obtain ⟨k, hka, rfl, hbel⟩ := hrel
        have HB := Lib.hid hbel
        have hzz := hbel.size
        clear HB4 hbel
        have r0 : wr.cell? ⟨rb, 0, none⟩ = some (.int .i64 2) := (HB.out.cell (p := ⟨rb, 0, none⟩) hzr).trans (HRB.out.cell 0)
        have r1 : wr.cell? ⟨rb, 1, none⟩ = some (.slice RA Y.length RC) := (HB.out.cell (p := ⟨rb, 1, none⟩) hzr).trans (HRB.out.cell 1)
        by_cases h1 : k < Y.length
        · have HAT := Lib.hid (rlAt_ok 2 RA RC Y k wr (HRS.out.upB HB.out) HYO.out (by omega) h1)
          have hlk := HLEN.out Y[k] (List.getElem_mem h1)
          generalize Y[k] = y at HAT hlk
          go_wp2_with fail
          refine HAT.out.mono ?_
          rintro e w6 ⟨v6, rfl, hown6, hb6⟩
          obtain ⟨-, A3, C3, rfl, -, -, hs3, -⟩ := SlR.of_own hown6
          have HK2 := Lib.hid (WrRow.of_own (B := W2.heap.size) (g := rb) hown6 rfl hs3 hzz hzr)
          have HB6 := Lib.hid (Below.then HB.out hb6 hzz)
          clear hown6 hs3 hb6 HAT r0 r1
          generalize y.length = n at *
          obtain ⟨wo, hwo⟩ : ∃ wo, wo = wr := ⟨_, rfl⟩
          subst hwo
          go_wp2
          go_loopw [61] (fun i wr2 => ∃ j : Nat, j ≤ n ∧ i = .int .i64 j ∧ WrRow W2.heap.size rb wr2 A3 n ∧ Below W2.heap.size W2 wr2) (fun i _ => n - (intOf i).toNat)
          case atStart => exact ⟨0, Nat.zero_le _, rfl, HK2.out, HB6.out⟩
          case round =>
            obtain ⟨j, hja, rfl, hrow2, hbel2⟩ := hrel
            have HR2 := Lib.hid hrow2
            have HB2b := Lib.hid hbel2
            clear hrow2 hbel2 HK2 HB6
            by_cases h2 : j < n
            · obtain ⟨b, o, rfl, hbB, hbg, hcell⟩ := HR2.out (by omega)
              obtain ⟨⟨v0, e0⟩, f0⟩ := hcell (j * 3) (by omega)
              obtain ⟨⟨v1, e1⟩, f1⟩ := hcell (j * 3 + 1) (by omega)
              obtain ⟨⟨v2, e2⟩, f2⟩ := hcell (j * 3 + 2) (by omega)
              rw [← Nat.add_assoc] at e1 f1 e2 f2
              have HR3 := Lib.hid (((HR2.out.set ⟨b, o + j * 3, none⟩ (.int .i64 0)).set ⟨b, o + j * 3 + 1, none⟩ (.int .i64 0)).set ⟨b, o + j * 3 + 2, none⟩ (.string ⟨#[]⟩))
              have HB3 := Lib.hid (((HB2b.out.setCell (p := ⟨b, o + j * 3, none⟩) hbB (.int .i64 0)).setCell (p := ⟨b, o + j * 3 + 1, none⟩) hbB (.int .i64 0)).setCell (p := ⟨b, o + j * 3 + 2, none⟩) hbB (.string ⟨#[]⟩))
              clear hcell
              go_wp2
              go_roundw
              case rel => exact ⟨j + 1, by omega, by go_num, HR3.out, HB3.out⟩
              case measure => simp [intOf]; omega
            · go_wp2
              go_roundw
              case rel => exact ⟨k + 1, by omega, by go_num, HB2b.out⟩
              case measure => simp [intOf]; omega
        · have HQX := Lib.hid (Row.new wr 60 [.int .i64 1, .int .i64 77, .string ⟨#[]⟩, .int .i64 1, .int .i64 0, .string ⟨#[]⟩])
          have HB5 := Lib.hid (HB.out.alloc hzz (.cells #[.int .i64 1, .int .i64 77, .string ⟨#[]⟩, .int .i64 1, .int .i64 0, .string ⟨#[]⟩] 60))
          have hzl : rb < wr.heap.size := by omega
          go_wp2_with fail
          generalize hxb : wr.heap.size = xb at *
          generalize wr.alloc (.cells #[.int .i64 1, .int .i64 77, .string ⟨#[]⟩, .int .i64 1, .int .i64 0, .string ⟨#[]⟩] 60) = W5 at *
          clear hxb r0 r1
          have hzx := HQX.out.lt
          refine (rlInsert_any (fun b => b ≠ xb) 2 RA (some ⟨xb, 0, none⟩) RC 2 Y x77 W5 (((HRS.out.toP.keep (fun p hp _ => HB5.out.cell hp)).more (by omega)).weak (fun b _ h => by omega)) (fun b h => by omega) (x77_sl HQX.out) HYO.out x77_ok (by omega) HSS.out hrc1 hrc2).mono ?_
          rintro e w6 ⟨-, hok6, hb6⟩
          obtain ⟨sv, rfl, SA, SC, rfl, hsc1, hsc2, hss⟩ := hok6 x77_wrong
          have HRK := Lib.hid (rank_ins Y x77)
          have HMEM : Hid (x77 ∈ RL.insF Y x77) := (RL.mem_insF _ _ _).2 (.inr rfl)
          have hsl := RL.insF_length_le Y x77
          have HSO : Hid (RsOk (RL.insF Y x77)) := fun y hy => by
            rcases (RL.mem_insF _ _ _).1 hy with h | rfl
            · exact HYO.out y h
            · exact x77_ok
          have HSS2 := Lib.hid (HSS.out.ins x77)
          generalize RL.insF Y x77 = S at *
          have hz6 := hb6.size
          have q6 := HQX.out.below hb6 hzx
          have x1 : w6.cell? ⟨xb, 1, none⟩ = some (.int .i64 77) := q6.cell 1
          have fx := q6.frozen 1
          have hx6 : xb < w6.heap.size := q6.lt
          have HB6 := Lib.hid (Below.then HB5.out hb6 HB5.out.size)
          have HS6 := Lib.hid hss
          clear hok6 hb6 hss q6 HB5
          generalize decide (x77 ∈ Y) = dd at *
          go_wp2_with fail
          have hk8 : ∀ p : Addr, p.block < w6.heap.size → p.block ≠ xb → (((w6.setCell ⟨xb, 1, none⟩ (.int .i64 78)).alloc (.cells #[.int .i64 2, .slice SA S.length SC] 29)).alloc (.cells #[.int .i64 1, .int .i64 77, .string ⟨#[]⟩, .int .i64 1, .int .i64 0, .string ⟨#[]⟩] 60)).cell? p = w6.cell? p := fun p hp hne =>
            old_cell _ _ (by simp; omega) (old_cell _ _ (by simpa using hp) (far_cell (p := ⟨xb, 1, none⟩) (fun e => hne e.symm) rfl))
          have hb8 := ((HB6.out.setCell (p := ⟨xb, 1, none⟩) hzz (.int .i64 78)).alloc (by have := HB6.out.size; simpa using this) (.cells #[.int .i64 2, .slice SA S.length SC] 29)).alloc (by have := HB6.out.size; simp; omega) (.cells #[.int .i64 1, .int .i64 77, .string ⟨#[]⟩, .int .i64 1, .int .i64 0, .string ⟨#[]⟩] 60)
          have q8 := Row.new ((w6.setCell ⟨xb, 1, none⟩ (.int .i64 78)).alloc (.cells #[.int .i64 2, .slice SA S.length SC] 29)) 60 [.int .i64 1, .int .i64 77, .string ⟨#[]⟩, .int .i64 1, .int .i64 0, .string ⟨#[]⟩]
          have hz8 : w6.heap.size ≤ (((w6.setCell ⟨xb, 1, none⟩ (.int .i64 78)).alloc (.cells #[.int .i64 2, .slice SA S.length SC] 29)).alloc (.cells #[.int .i64 1, .int .i64 77, .string ⟨#[]⟩, .int .i64 1, .int .i64 0, .string ⟨#[]⟩] 60)).heap.size := by simp; omega
          have q8' : Row (((w6.setCell ⟨xb, 1, none⟩ (.int .i64 78)).alloc (.cells #[.int .i64 2, .slice SA S.length SC] 29)).alloc (.cells #[.int .i64 1, .int .i64 77, .string ⟨#[]⟩, .int .i64 1, .int .i64 0, .string ⟨#[]⟩] 60)) (w6.heap.size + 1) 60 [.int .i64 1, .int .i64 77, .string ⟨#[]⟩, .int .i64 1, .int .i64 0, .string ⟨#[]⟩] := by simpa using q8
          have HB8 := Lib.hid hb8
          clear q8 hb8 x1 fx
          generalize ((w6.setCell ⟨xb, 1, none⟩ (.int .i64 78)).alloc (.cells #[.int .i64 2, .slice SA S.length SC] 29)).alloc (.cells #[.int .i64 1, .int .i64 77, .string ⟨#[]⟩, .int .i64 1, .int .i64 0, .string ⟨#[]⟩] 60) = W8 at *
          refine (rlSearch_any 2 SA (some ⟨w6.heap.size + 1, 0, none⟩) SC 2 S x77 W8 ((HS6.out.keep hk8).more hz8).sl (x77_sl q8') (by omega) HSO.out x77_ok.1 HSS2.out).mono ?_
          rintro e w9 ⟨rfl, hx9⟩
          have HB9 := Lib.hid (Below.then HB8.out hx9.below HB8.out.size)
          have hdm : decide (x77 ∈ S) = true := by simpa using HMEM.out
          have hle : decide (((RL.rank S x77 : Nat) : Int) ≤ (Y.length : Int)) = true := by
            have h1 := HRK.out
            have h2 := RL.rank_le Y x77
            simp
            omega
          have hle2 : RL.rank S x77 ≤ Y.length := by simp at hle; omega
          clear hle
          rw [hdm]
          clear hx9 hk8 q8' hdm
          generalize RL.rank S x77 = rk at *
          have r0 : w9.cell? ⟨rb, 0, none⟩ = some (.int .i64 2) := (HB9.out.cell (p := ⟨rb, 0, none⟩) hzr).trans (HRB.out.cell 0)
          have r1 : w9.cell? ⟨rb, 1, none⟩ = some (.slice RA Y.length RC) := (HB9.out.cell (p := ⟨rb, 1, none⟩) hzr).trans (HRB.out.cell 1)
          go_wp2_with fail
          refine (rlLen_any 2 RA Y.length RC w9).mono ?_
          rintro e w10 ⟨rfl, hx10⟩
          have HB10 := Lib.hid (Below.then HB9.out hx10.below HB9.out.size)
          clear hx10 r0 r1
          have r0 : w10.cell? ⟨rb, 0, none⟩ = some (.int .i64 2) := (HB10.out.cell (p := ⟨rb, 0, none⟩) hzr).trans (HRB.out.cell 0)
          have r1 : w10.cell? ⟨rb, 1, none⟩ = some (.slice RA Y.length RC) := (HB10.out.cell (p := ⟨rb, 1, none⟩) hzr).trans (HRB.out.cell 1)
          go_wp2_with fail
          refine (l7Is_ok 2 RA MA RC MC Y w10 (HRS.out.upB HB10.out) (HMS.out.upB HB10.out) HYO.out (by omega)).mono ?_
          rintro e w11 ⟨rfl, hb11⟩
          have HB11 := Lib.hid (Below.then HB10.out hb11 HB10.out.size)
          clear hb11 r0 r1
          go_wp2_with fail
          refine (l7awake_any _).mono ?_
          rintro e w12 ⟨rfl, hb12⟩
          have HB12 := Lib.hid (Below.then HB2.out (Below.then HB11.out hb12 HB11.out.size) HB2.out.size)
          clear hb12
          go_wp2
          go_ret
          exact ⟨rfl, HB12.out⟩

end Go.Proofs.Ytiopkooigeaneaa

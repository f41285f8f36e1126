/- Walk: slices.CompactFunc at rows with row.Equal. -/
import Derived.Test.YtiopkooigeaneaaE3
import Derived.Outline
import Derived.IntWalk
namespace Go.Proofs.Ytiopkooigeaneaa
open Go.RowKit Go.Sort Go.Shelf Go.Lib

/-- Place j is kept: it is the first, or differs from the one before. -/
def kpR {w0 : World} {g : Nat} (d : Array (El w0 g)) (j : Nat) : Bool := decide (j = 0) || !decide ((d[j]!).row = (d[j - 1]!).row)

theorem eqEl_any {w0 wr : World} {g : Nat} (x y : El w0 g) (hg : w0.grownBy wr (some g)) : Calls Try.prog 73 #[x.enc, y.enc] wr fun e w' => e = .returned (.bool (decide (x.row = y.row))) ∧ Ext wr w' := by
  obtain ⟨A1, C1, e1, _, _, s1, o1, _⟩ := x.row_at hg
  obtain ⟨A2, C2, e2, _, _, s2, o2, _⟩ := y.row_at hg
  have hc := rwEqual_any A1 A2 C1 C2 x.row y.row wr s1 s2 o1.1 o2.1
  rw [← e1, ← e2] at hc
  exact hc

theorem setCells_heap (b : Nat) : ∀ (vs : List Value) (o : Nat) (w : World) (k : Nat), k ≠ b → (w.setCells b o vs).heap[k]? = w.heap[k]?
  | [], _, _, _, _ => rfl
  | v :: vs, o, w, k, h => by
    unfold World.setCells
    rw [setCells_heap b vs (o + 1) _ k h, Below.heap_setCell _ _ _ _ h]
theorem setCells_rest (b : Nat) : ∀ (vs : List Value) (o : Nat) (w : World), (w.setCells b o vs).os = w.os ∧ (w.setCells b o vs).tape = w.tape ∧ (w.setCells b o vs).output = w.output ∧ (w.setCells b o vs).heap.size = w.heap.size
  | [], _, _ => ⟨rfl, rfl, rfl, rfl⟩
  | v :: vs, o, w => by
    unfold World.setCells
    obtain ⟨h1, h2, h3, h4⟩ := setCells_rest b vs (o + 1) (w.setCell ⟨b, o, none⟩ v)
    exact ⟨h1, h2, h3, by rw [h4]; simp⟩
theorem HB.cleared {w0 wr : World} {g off kk : Nat} {d dk : Array (El w0 g)} (h : HB w0 wr g off dk) (hI : KeptInv (kpR d) d d.size kk dk) (vs : List Value) : HB w0 (wr.setCells g (off + kk) vs) g off (keptUpTo (kpR d) d d.size).toArray := by
  obtain ⟨e1, e2, e3, e4⟩ := setCells_rest g vs (off + kk) wr
  refine ⟨⟨e1.trans h.grown.os, e2.trans h.grown.tape, e3.trans h.grown.output, by rw [e4]; exact h.grown.size, fun k hk hne => ?_⟩, fun j hj => ?_, h.lt⟩
  · rw [setCells_heap _ _ _ _ _ (fun e => hne (by rw [e]))]
    exact h.grown.block k hk hne
  · simp only [List.size_toArray] at hj
    have hjk : j < kk := by rw [hI.len] at hj; exact hj
    have hjd : j < dk.size := by have := hI.size; have := hI.lt; omega
    obtain ⟨c1, c2⟩ := h.holds j hjd
    have hl := hI.low j hjk
    rw [World.cell?_setCells_out _ _ _ _ _ (fun _ _ => .inl (by simp only; omega)), World.frozen?_setCells]
    refine ⟨?_, c2⟩
    rw [c1]
    have : (keptUpTo (kpR d) d d.size).toArray[j]! = dk[j]! := by
      rw [getElem!_pos _ _ (by simpa using hj)]
      rw [List.getElem?_eq_getElem hj] at hl
      simpa using hl
    rw [this]

set_option maxHeartbeats 2000000 in
set_option maxRecDepth 100000 in
theorem compactRows_any {w0 w : World} {g off : Nat} {d : Array (El w0 g)} (cap : Nat) (h : HB w0 w g off d) (hsz : d.size ≤ 1000000) (h2 : 2 ≤ d.size) (hcap : d.size ≤ cap) (hcm : cap ≤ 9223372036854775807) :
    Calls Try.prog 81 #[.slice (some ⟨g, off, none⟩) d.size cap, .func (.func 73) #[] #[]] w fun e w' => ∃ l : List (El w0 g), e = .returned (.slice (some ⟨g, off, none⟩) l.length cap) ∧ l = keptUpTo (kpR d) d d.size ∧ HB w0 w' g off l.toArray := by
  have H := Lib.hid h
  clear h
  have eg : ∀ args w, (callFunc 73 args).run Try.prog w = .ok (.enter 73 args) w := enters_of Try.func73 (by kernel_rfl) rfl
  have hn2 : ¬ (d.size : Int) < 2 := by omega
  go_enter Try.func81, Try.ntmps81
  go_wp2
  go_loopw [5] (fun i wr => ∃ k : Nat, 1 ≤ k ∧ k ≤ d.size ∧ i = .int .i64 k ∧ (∀ j, j < k → kpR d j = true) ∧ HB w0 wr g off d) (fun i _ => d.size - (intOf i).toNat)
  case atStart => exact ⟨1, by omega, by omega, rfl, fun j hj => by simp [kpR]; omega, H.out⟩
  case round =>
    obtain ⟨k, hk1, hk2, rfl, hall, hH⟩ := hrel
    have HA := Lib.hid hall
    have HH := Lib.hid hH
    clear hall H
    by_cases hlt : k < d.size
    · have c1 := (hH.holds k hlt).1
      have c2 := (hH.holds (k - 1) (by omega)).1
      have HK : Hid (kpR d k = !decide ((d[k]!).row = (d[k - 1]!).row)) := by show _ = _; unfold kpR; simp; omega
      have HC := Lib.hid (fun W (hg : w0.grownBy W (some g)) => eqEl_any d[k]! d[k - 1]! hg)
      clear hH
      generalize d[k]! = x at *
      generalize d[k - 1]! = y at *
      generalize hx : x.enc = xv at *
      generalize hy : y.enc = yv at *
      have e1 : IntKind.i64.wrap ((k : Int) - 1) = ((k - 1 : Nat) : Int) := by rw [IntWalk.i64_in _ (by omega)]; omega
      have hk11 : k - 1 < d.size := by omega
      go_wp2
      go_still_tail 10, (by kernel_rfl)
      go_wp2_with fail
      subst hx hy
      refine (HC.out _ (HH.out.ext (Ext.refl _).drew).grown).mono ?_
      rintro e w2 ⟨rfl, hx2⟩
      have HH2 := Lib.hid ((HH.out.ext ((Ext.refl _).drew)).ext hx2)
      clear HC hx2 HH c1 c2 e1
      by_cases hq : x.row = y.row
      rotate_left
      · have hd : decide (x.row = y.row) = false := by simpa using hq
        have HK2 : Hid (kpR d k = true) := by show _ = _; rw [HK.out, hd]; rfl
        rw [hd]
        clear hd hq HK
        go_wp2
        go_roundw
        case rel =>
          refine ⟨k + 1, by omega, by omega, by go_num, fun j hj => ?_, HH2.out⟩
          by_cases e : j = k
          · subst e; exact HK2.out
          · exact HA.out j (by omega)
        case measure => simp [intOf]; omega
      have hd : decide (x.row = y.row) = true := by simpa using hq
      have HK2 : Hid (kpR d k = false) := by show _ = _; rw [HK.out, hd]; rfl
      rw [hd]
      clear hd hq HK
      have hkc : k ≤ cap := by omega
      have hkc2 : k < cap := by omega
      obtain ⟨wo, rfl⟩ : ∃ wo : World, wo = w2 := ⟨_, rfl⟩
      go_wp2
      go_loopw [5, 7] (fun i i2 wr => ∃ (kk k2 : Nat) (dk : Array (El w0 g)), 1 ≤ k2 ∧ k + k2 ≤ d.size ∧ i = .int .i64 kk ∧ i2 = .int .i64 k2 ∧ KeptInv (kpR d) d (k + k2) kk dk ∧ HB w0 wr g off dk) (fun _ i2 _ => d.size - (intOf i2).toNat)
      case atStart => exact ⟨k, 1, d, by omega, by omega, rfl, rfl, KeptInv.start HA.out HK2.out, HH2.out⟩
      case round =>
        obtain ⟨kk, k2, dk, h21, h22, rfl, rfl, hI, hB⟩ := hrel
        have HI := Lib.hid hI
        have HB2 := Lib.hid hB
        have hds := hI.size
        have hkk := hI.lt
        clear HH2 HK2 HA
        by_cases hlt2 : k + k2 < d.size
        · have c1 := (hB.holds (k + k2) (by omega)).1
          have c2 := (hB.holds (k + (k2 - 1)) (by omega)).1
          obtain ⟨c3, f3⟩ := hB.holds kk (by omega)
          rw [hI.high (k + k2) (by omega)] at c1
          rw [hI.high (k + (k2 - 1)) (by omega)] at c2
          have HDS := Lib.hid hds
          clear hB hI hds
          have HK : Hid (kpR d (k + k2) = !decide ((d[k + k2]!).row = (d[k + (k2 - 1)]!).row)) := by
            show _ = _
            unfold kpR
            rw [show k + k2 - 1 = k + (k2 - 1) by omega]
            simp; omega
          have HC := Lib.hid (fun W (hg : w0.grownBy W (some g)) => eqEl_any d[k + k2]! d[k + (k2 - 1)]! hg)
          have HKEEP := Lib.hid (fun hk => HI.out.keep (by omega) hk)
          generalize dk[kk]! = z at c3
          generalize d[k + k2]! = x at *
          generalize d[k + (k2 - 1)]! = y at *
          rw [← Nat.add_assoc] at c1 c2
          generalize hx : x.enc = xv at *
          generalize hy : y.enc = yv at *
          have e1 : IntKind.i64.wrap ((k2 : Int) - 1) = ((k2 - 1 : Nat) : Int) := by rw [IntWalk.i64_in _ (by omega)]; omega
          have hkl : k2 < d.size - k := by omega
          have hkl1 : k2 - 1 < d.size - k := by omega
          have hkks : kk < d.size := by omega
          go_wp2
          go_still_tail 10, (by kernel_rfl)
          go_wp2_with fail
          subst hx hy
          refine (HC.out _ (HB2.out.ext (Ext.refl _).drew).grown).mono ?_
          rintro e w3 ⟨rfl, hx3⟩
          have HB3 := Lib.hid ((HB2.out.ext ((Ext.refl _).drew)).ext hx3)
          have g0 := HB2.out.lt'
          obtain ⟨q1, q2⟩ := ((Ext.refl wr).drew.trans hx3).rules
          have c1' := (q1 g (off + k + k2) g0).trans c1
          have c3' := (q1 g (off + kk) g0).trans c3
          have f3' := (q2 g (off + kk) g0).trans f3
          clear HC hx3 HB2 c1 c2 c3 f3 e1 q1 q2
          by_cases hq : x.row = y.row
          · have hd : decide (x.row = y.row) = true := by simpa using hq
            have HS : Hid (KeptInv (kpR d) d (k + (k2 + 1)) kk dk) := HI.out.skip (by rw [HK.out, hd]; rfl)
            rw [hd]
            clear hd hq HK c1' c3' f3'
            go_wp2
            go_roundw
            case rel => exact ⟨kk, k2 + 1, dk, by omega, by omega, rfl, by go_num, HS.out, HB3.out⟩
            case measure => simp [intOf]; omega
          · have hd : decide (x.row = y.row) = false := by simpa using hq
            have HS : Hid (KeptInv (kpR d) d (k + (k2 + 1)) (kk + 1) (dk.setIfInBounds kk x)) := HKEEP.out (by rw [HK.out, hd]; rfl)
            have HB4 := Lib.hid (HB3.out.set (i := kk) (by have := HDS.out; omega) x)
            rw [hd]
            clear hd hq HK HKEEP
            obtain ⟨XA, XC, hxe, -, -, -, -, -⟩ := x.row_at HB3.out.grown
            rw [hxe] at c1' HB4 ⊢
            clear hxe
            go_wp2
            go_roundw
            case rel => exact ⟨kk + 1, k2 + 1, _, by omega, by omega, by go_num, by go_num, HS.out, HB4.out⟩
            case measure => simp [intOf]; omega
        · have hke : k + k2 = d.size := by omega
          have HI2 : Hid (KeptInv (kpR d) d d.size kk dk) := by rw [← hke]; exact HI.out
          have hkks : kk < d.size := by omega
          have hkkc : kk ≤ cap := by omega
          have hkkc2 : kk < cap := by omega
          have hnl : ¬ k2 < d.size - k := by omega
          have hcl : ∀ ty, (Builtin.clear_ #[22] ty #[.slice (some ⟨g, off + kk, none⟩) (d.size - kk) (cap - kk)]).run Try.prog wr = .ok (.tuple #[]) (wr.setCells g (off + kk) (List.replicate (d.size - kk) (.slice none 0 0))) :=
            fun ty => Lib.run_clear_slice wr _ _ ty _ Try.underlying22 Try.zeroValue24 rfl rfl g (off + kk) _ _ (by omega) (fun t ht => by rw [show off + kk + t = off + (kk + t) by omega, (hB.holds (kk + t) (by omega)).1]; rfl) (fun t ht => by rw [show off + kk + t = off + (kk + t) by omega]; exact (hB.holds (kk + t) (by omega)).2)
          have hlow : 0 ≤ (kk : Int) := by omega
          clear hB hI hke HI hlt2 hds hkk
          go_wp2
          go_ret
          refine ⟨keptUpTo (kpR d) d d.size, ?_, rfl, ?_⟩
          · rw [HI2.out.len]; rfl
          · exact HB2.out.cleared HI2.out _
    · obtain rfl : k = d.size := by omega
      have HE : Hid (d.toList = keptUpTo (kpR d) d d.size) := by
        show _ = _
        rw [keptUpTo_all _ _ _ HA.out]
        apply List.ext_getElem (by simp)
        intro i h1 h2
        simp at h1
        simp [h1]
      go_wp2
      go_ret
      exact ⟨d.toList, by simp, HE.out, by simpa using hH⟩

end Go.Proofs.Ytiopkooigeaneaa

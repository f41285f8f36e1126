/- Parts of the proof, merged: V9, RSet, V10, V11, E4, V12, E5, V20, E6, Z0, Z1, V23, Z2, Z4. -/
import Derived.Test.YtdadchpiibipoaaGreatDoorQa1
import Derived.Outline
import Derived.IntWalk
import Derived.Maps.AppendAt
import Derived.Maps.OwnSet
import Derived.Maps.RangeWalk
import Derived.StringKeys
import Derived.Shelf.SlMaps.Clone

set_option maxRecDepth 100000
namespace Go.Proofs.YtdadchpiibipoaaGreatDoor
section
open Go.RowKit Go.Sort Go.Shelf Go.Lib

def kpR {w0 : World} {g : Nat} (d : Array (El w0 g)) (j : Nat) : Bool := decide (j = 0) || !decide ((d[j]!).row = (d[j - 1]!).row)

theorem eqEl_any {w0 wr : World} {g : Nat} (x y : El w0 g) (hg : w0.grownBy wr (some g)) : Calls Tryz.prog 83 #[x.enc, y.enc] wr fun e w' => e = .returned (.bool (decide (x.row = y.row))) ∧ Ext wr w' := by
  obtain ⟨A1, C1, e1, _, _, s1, o1, _⟩ := x.row_at hg
  obtain ⟨A2, C2, e2, _, _, s2, o2, _⟩ := y.row_at hg
  have hc := rwEqual_any A1 A2 C1 C2 x.row y.row wr s1 s2 o1.1 o2.1
  rw [← e1, ← e2] at hc
  exact hc

theorem setCells_heap (b : Nat) : ∀ (vs : List Value) (o : Nat) (w : World) (k : Nat), k ≠ b → (w.setCells b o vs).heap[k]? = w.heap[k]?
  | [], _, _, _, _ => rfl
  | v :: vs, o, w, k, h => by
    unfold World.setCells
    rw [setCells_heap b vs (o + 1) _ k h, Below.heap_setCell _ _ _ _ h]
theorem setCells_rest (b : Nat) : ∀ (vs : List Value) (o : Nat) (w : World), (w.setCells b o vs).os = w.os ∧ (w.setCells b o vs).tape = w.tape ∧ (w.setCells b o vs).output = w.output ∧ (w.setCells b o vs).heap.size = w.heap.size
  | [], _, _ => ⟨rfl, rfl, rfl, rfl⟩
  | v :: vs, o, w => by
    unfold World.setCells
    obtain ⟨h1, h2, h3, h4⟩ := setCells_rest b vs (o + 1) (w.setCell ⟨b, o, none⟩ v)
    exact ⟨h1, h2, h3, by rw [h4]; simp⟩
theorem HB.cleared {w0 wr : World} {g off kk : Nat} {d dk : Array (El w0 g)} (h : HB w0 wr g off dk) (hI : KeptInv (kpR d) d d.size kk dk) (vs : List Value) : HB w0 (wr.setCells g (off + kk) vs) g off (keptUpTo (kpR d) d d.size).toArray := by
  obtain ⟨e1, e2, e3, e4⟩ := setCells_rest g vs (off + kk) wr
  refine ⟨⟨e1.trans h.grown.os, e2.trans h.grown.tape, e3.trans h.grown.output, by rw [e4]; exact h.grown.size, fun k hk hne => ?_⟩, fun j hj => ?_, h.lt⟩
  · rw [setCells_heap _ _ _ _ _ (fun e => hne (by rw [e]))]
    exact h.grown.block k hk hne
  · simp only [List.size_toArray] at hj
    have hjk : j < kk := by rw [hI.len] at hj; exact hj
    have hjd : j < dk.size := by have := hI.size; have := hI.lt; omega
    obtain ⟨c1, c2⟩ := h.holds j hjd
    have hl := hI.low j hjk
    rw [World.cell?_setCells_out _ _ _ _ _ (fun _ _ => .inl (by simp only; omega)), World.frozen?_setCells]
    refine ⟨?_, c2⟩
    rw [c1]
    have : (keptUpTo (kpR d) d d.size).toArray[j]! = dk[j]! := by
      rw [getElem!_pos _ _ (by simpa using hj)]
      rw [List.getElem?_eq_getElem hj] at hl
      simpa using hl
    rw [this]

set_option maxHeartbeats 2000000 in
theorem compactRows_any {w0 w : World} {g off : Nat} {d : Array (El w0 g)} (cap : Nat) (h : HB w0 w g off d) (hsz : d.size ≤ 1000000) (h2 : 2 ≤ d.size) (hcap : d.size ≤ cap) (hcm : cap ≤ 9223372036854775807) :
    Calls Tryz.prog 136 #[.slice (some ⟨g, off, none⟩) d.size cap, .func (.func 83) #[] #[]] w fun e w' => ∃ l : List (El w0 g), e = .returned (.slice (some ⟨g, off, none⟩) l.length cap) ∧ l = keptUpTo (kpR d) d d.size ∧ HB w0 w' g off l.toArray := by
  have H := Lib.hid h
  clear h
  have eg : ∀ args w, (callFunc 83 args).run Tryz.prog w = .ok (.enter 83 args) w := enters_of Tryz.func83 (by kernel_rfl) rfl
  have hn2 : ¬ (d.size : Int) < 2 := by omega
  go_enter Tryz.func136, Tryz.ntmps136
  go_wp2
  go_loopw [5] (fun i wr => ∃ k : Nat, 1 ≤ k ∧ k ≤ d.size ∧ i = .int .i64 k ∧ (∀ j, j < k → kpR d j = true) ∧ HB w0 wr g off d) (fun i _ => d.size - (intOf i).toNat)
  case atStart => exact ⟨1, by omega, by omega, rfl, fun j hj => by simp [kpR]; omega, H.out⟩
  case round =>
    obtain ⟨k, hk1, hk2, rfl, hall, hH⟩ := hrel
    have HA := Lib.hid hall
    have HH := Lib.hid hH
    clear hall H
    by_cases hlt : k < d.size
    · have c1 := (hH.holds k hlt).1
      have c2 := (hH.holds (k - 1) (by omega)).1
      have HK : Hid (kpR d k = !decide ((d[k]!).row = (d[k - 1]!).row)) := by show _ = _; unfold kpR; simp; omega
      have HC := Lib.hid (fun W (hg : w0.grownBy W (some g)) => eqEl_any d[k]! d[k - 1]! hg)
      clear hH
      generalize d[k]! = x at *
      generalize d[k - 1]! = y at *
      generalize hx : x.enc = xv at *
      generalize hy : y.enc = yv at *
      have e1 : IntKind.i64.wrap ((k : Int) - 1) = ((k - 1 : Nat) : Int) := by rw [IntWalk.i64_in _ (by omega)]; omega
      have hk11 : k - 1 < d.size := by omega
      go_wp2
      go_still_tail 10, (by kernel_rfl)
      go_wp2_with fail
      subst hx hy
      refine (HC.out _ (HH.out.ext (Ext.refl _).drew).grown).mono ?_
      rintro e w2 ⟨rfl, hx2⟩
      have HH2 := Lib.hid ((HH.out.ext ((Ext.refl _).drew)).ext hx2)
      clear HC hx2 HH c1 c2 e1
      by_cases hq : x.row = y.row
      rotate_left
      · have hd : decide (x.row = y.row) = false := by simpa using hq
        have HK2 : Hid (kpR d k = true) := by show _ = _; rw [HK.out, hd]; rfl
        rw [hd]
        clear hd hq HK
        go_wp2
        go_roundw
        case rel =>
          refine ⟨k + 1, by omega, by omega, by go_num, fun j hj => ?_, HH2.out⟩
          by_cases e : j = k
          · subst e; exact HK2.out
          · exact HA.out j (by omega)
        case measure => simp [intOf]; omega
      have hd : decide (x.row = y.row) = true := by simpa using hq
      have HK2 : Hid (kpR d k = false) := by show _ = _; rw [HK.out, hd]; rfl
      rw [hd]
      clear hd hq HK
      have hkc : k ≤ cap := by omega
      have hkc2 : k < cap := by omega
      obtain ⟨wo, rfl⟩ : ∃ wo : World, wo = w2 := ⟨_, rfl⟩
      go_wp2
      go_loopw [5, 7] (fun i i2 wr => ∃ (kk k2 : Nat) (dk : Array (El w0 g)), 1 ≤ k2 ∧ k + k2 ≤ d.size ∧ i = .int .i64 kk ∧ i2 = .int .i64 k2 ∧ KeptInv (kpR d) d (k + k2) kk dk ∧ HB w0 wr g off dk) (fun _ i2 _ => d.size - (intOf i2).toNat)
      case atStart => exact ⟨k, 1, d, by omega, by omega, rfl, rfl, KeptInv.start HA.out HK2.out, HH2.out⟩
      case round =>
        obtain ⟨kk, k2, dk, h21, h22, rfl, rfl, hI, hB⟩ := hrel
        have HI := Lib.hid hI
        have HB2 := Lib.hid hB
        have hds := hI.size
        have hkk := hI.lt
        clear HH2 HK2 HA
        by_cases hlt2 : k + k2 < d.size
        · have c1 := (hB.holds (k + k2) (by omega)).1
          have c2 := (hB.holds (k + (k2 - 1)) (by omega)).1
          obtain ⟨c3, f3⟩ := hB.holds kk (by omega)
          rw [hI.high (k + k2) (by omega)] at c1
          rw [hI.high (k + (k2 - 1)) (by omega)] at c2
          have HDS := Lib.hid hds
          clear hB hI hds
          have HK : Hid (kpR d (k + k2) = !decide ((d[k + k2]!).row = (d[k + (k2 - 1)]!).row)) := by
            show _ = _
            unfold kpR
            rw [show k + k2 - 1 = k + (k2 - 1) by omega]
            simp; omega
          have HC := Lib.hid (fun W (hg : w0.grownBy W (some g)) => eqEl_any d[k + k2]! d[k + (k2 - 1)]! hg)
          have HKEEP := Lib.hid (fun hk => HI.out.keep (by omega) hk)
          generalize dk[kk]! = z at c3
          generalize d[k + k2]! = x at *
          generalize d[k + (k2 - 1)]! = y at *
          rw [← Nat.add_assoc] at c1 c2
          generalize hx : x.enc = xv at *
          generalize hy : y.enc = yv at *
          have e1 : IntKind.i64.wrap ((k2 : Int) - 1) = ((k2 - 1 : Nat) : Int) := by rw [IntWalk.i64_in _ (by omega)]; omega
          have hkl : k2 < d.size - k := by omega
          have hkl1 : k2 - 1 < d.size - k := by omega
          have hkks : kk < d.size := by omega
          go_wp2
          go_still_tail 10, (by kernel_rfl)
          go_wp2_with fail
          subst hx hy
          refine (HC.out _ (HB2.out.ext (Ext.refl _).drew).grown).mono ?_
          rintro e w3 ⟨rfl, hx3⟩
          have HB3 := Lib.hid ((HB2.out.ext ((Ext.refl _).drew)).ext hx3)
          have g0 := HB2.out.lt'
          obtain ⟨q1, q2⟩ := ((Ext.refl wr).drew.trans hx3).rules
          have c1' := (q1 g (off + k + k2) g0).trans c1
          have c3' := (q1 g (off + kk) g0).trans c3
          have f3' := (q2 g (off + kk) g0).trans f3
          clear HC hx3 HB2 c1 c2 c3 f3 e1 q1 q2
          by_cases hq : x.row = y.row
          · have hd : decide (x.row = y.row) = true := by simpa using hq
            have HS : Hid (KeptInv (kpR d) d (k + (k2 + 1)) kk dk) := HI.out.skip (by rw [HK.out, hd]; rfl)
            rw [hd]
            clear hd hq HK c1' c3' f3'
            go_wp2
            go_roundw
            case rel => exact ⟨kk, k2 + 1, dk, by omega, by omega, rfl, by go_num, HS.out, HB3.out⟩
            case measure => simp [intOf]; omega
          · have hd : decide (x.row = y.row) = false := by simpa using hq
            have HS : Hid (KeptInv (kpR d) d (k + (k2 + 1)) (kk + 1) (dk.setIfInBounds kk x)) := HKEEP.out (by rw [HK.out, hd]; rfl)
            have HB4 := Lib.hid (HB3.out.set (i := kk) (by have := HDS.out; omega) x)
            rw [hd]
            clear hd hq HK HKEEP
            obtain ⟨XA, XC, hxe, -, -, -, -, -⟩ := x.row_at HB3.out.grown
            rw [hxe] at c1' HB4 ⊢
            clear hxe
            go_wp2
            go_roundw
            case rel => exact ⟨kk + 1, k2 + 1, _, by omega, by omega, by go_num, by go_num, HS.out, HB4.out⟩
            case measure => simp [intOf]; omega
        · have hke : k + k2 = d.size := by omega
          have HI2 : Hid (KeptInv (kpR d) d d.size kk dk) := by rw [← hke]; exact HI.out
          have hkks : kk < d.size := by omega
          have hkkc : kk ≤ cap := by omega
          have hkkc2 : kk < cap := by omega
          have hnl : ¬ k2 < d.size - k := by omega
          have hcl : ∀ ty, (Builtin.clear_ #[38] ty #[.slice (some ⟨g, off + kk, none⟩) (d.size - kk) (cap - kk)]).run Tryz.prog wr = .ok (.tuple #[]) (wr.setCells g (off + kk) (List.replicate (d.size - kk) (.slice none 0 0))) :=
            fun ty => Lib.run_clear_slice wr _ _ ty _ Tryz.underlying38 Tryz.zeroValue42 rfl rfl g (off + kk) _ _ (by omega) (fun t ht => by rw [show off + kk + t = off + (kk + t) by omega, (hB.holds (kk + t) (by omega)).1]; rfl) (fun t ht => by rw [show off + kk + t = off + (kk + t) by omega]; exact (hB.holds (kk + t) (by omega)).2)
          have hlow : 0 ≤ (kk : Int) := by omega
          clear hB hI hke HI hlt2 hds hkk
          go_wp2
          go_ret
          refine ⟨keptUpTo (kpR d) d d.size, ?_, rfl, ?_⟩
          · rw [HI2.out.len]; rfl
          · exact HB2.out.cleared HI2.out _
    · obtain rfl : k = d.size := by omega
      have HE : Hid (d.toList = keptUpTo (kpR d) d d.size) := by
        show _ = _
        rw [keptUpTo_all _ _ _ HA.out]
        apply List.ext_getElem (by simp)
        intro i h1 h2
        simp at h1
        simp [h1]
      go_wp2
      go_ret
      exact ⟨d.toList, by simp, HE.out, by simpa using hH⟩
end
end Go.Proofs.YtdadchpiibipoaaGreatDoor
section
namespace Go.Proofs.YtdadchpiibipoaaGreatDoor.RL

theorem SS.nodup {X : List R} (h : SS X) : X.Nodup := h.imp fun hab e => by rw [e, tot_cmpR.self] at hab; omega
theorem SS.ext : ∀ {X Y : List R}, SS X → SS Y → (∀ r, r ∈ X ↔ r ∈ Y) → X = Y
  | [], [], _, _, _ => rfl
  | [], y :: Y, _, _, h => by have := (h y).2 (by simp); simp at this
  | x :: X, [], _, _, h => by have := (h x).1 (by simp); simp at this
  | x :: X, y :: Y, hX, hY, h => by
    have e : x = y := by
      rcases List.mem_cons.1 ((h x).1 (by simp)) with e | hx
      · exact e
      · rcases List.mem_cons.1 ((h y).2 (by simp)) with e | hy
        · exact e.symm
        · have h1 := hY.head x hx
          have h2 := hX.head y hy
          rw [tot_cmpR.sw y x] at h2
          omega
    subst e
    congr 1
    refine SS.ext hX.tail hY.tail fun r => ?_
    have hr := h r
    simp only [List.mem_cons] at hr
    constructor
    · intro hm
      rcases hr.1 (.inr hm) with e | h'
      · subst e; have := hX.head _ hm; rw [tot_cmpR.self] at this; omega
      · exact h'
    · intro hm
      rcases hr.2 (.inr hm) with e | h'
      · subst e; have := hY.head _ hm; rw [tot_cmpR.self] at this; omega
      · exact h'

def insF (X : List R) (r : R) : List R := if r ∈ X then X else X.take (rank X r) ++ r :: X.drop (rank X r)
theorem mem_insF (X : List R) (r y : R) : y ∈ insF X r ↔ y ∈ X ∨ y = r := by
  unfold insF
  split
  · rename_i h
    constructor
    · exact .inl
    · rintro (h' | rfl)
      · exact h'
      · exact h
  · rw [List.mem_append, List.mem_cons]
    conv => rhs; rw [← List.take_append_drop (rank X r) X, List.mem_append]
    constructor
    · rintro (h | h | h)
      · exact .inl (.inl h)
      · exact .inr h
      · exact .inl (.inr h)
    · rintro ((h | h) | h)
      · exact .inl h
      · exact .inr (.inr h)
      · exact .inr (.inl h)
theorem SS.take {X : List R} (h : SS X) (k : Nat) : SS (X.take k) := List.Pairwise.sublist (List.take_sublist k X) h
theorem SS.drop {X : List R} (h : SS X) (k : Nat) : SS (X.drop k) := List.Pairwise.sublist (List.drop_sublist k X) h
theorem SS.filter {X : List R} (h : SS X) (p : R → Bool) : SS (X.filter p) := List.Pairwise.sublist List.filter_sublist h
theorem lt_rank {X : List R} (h : SS X) (r : R) : ∀ y ∈ X.take (rank X r), cmpR y r < 0 := fun y hy => by
  obtain ⟨i, hi, rfl⟩ := List.getElem_of_mem hy
  simp at hi
  rw [List.getElem_take]
  exact (rank_split h r).1 i (by omega) (by omega)
theorem ge_rank {X : List R} (h : SS X) (r : R) : ∀ y ∈ X.drop (rank X r), 0 ≤ cmpR y r := fun y hy => by
  obtain ⟨i, hi, rfl⟩ := List.getElem_of_mem hy
  simp at hi
  rw [List.getElem_drop]
  exact (rank_split h r).2 _ (by omega) (by omega)
theorem SS.ins {X : List R} (h : SS X) (r : R) : SS (insF X r) := by
  unfold insF
  split
  · exact h
  · rename_i hn
    have gt : ∀ y ∈ X.drop (rank X r), cmpR r y < 0 := fun y hy => by
      have h1 := ge_rank h r y hy
      have h2 : cmpR y r ≠ 0 := fun e => hn (by rw [← (tot_cmpR.z _ _).1 e]; exact List.mem_of_mem_drop hy)
      rw [tot_cmpR.sw y r]
      omega
    unfold SS
    rw [List.pairwise_append]
    refine ⟨h.take _, List.pairwise_cons.2 ⟨gt, h.drop _⟩, fun a ha b hb => ?_⟩
    have h1 := lt_rank h r a ha
    rcases List.mem_cons.1 hb with rfl | hb
    · exact h1
    · exact tot_cmpR.tr _ _ _ h1 (gt b hb)

def ofF (X : List R) : List R := X.foldl insF []
theorem foldl_ins : ∀ (X acc : List R), SS acc → SS (X.foldl insF acc) ∧ ∀ y, y ∈ X.foldl insF acc ↔ y ∈ acc ∨ y ∈ X
  | [], acc, h => ⟨h, fun y => by simp⟩
  | x :: X, acc, h => by
    obtain ⟨h1, h2⟩ := foldl_ins X (insF acc x) (h.ins x)
    refine ⟨h1, fun y => ?_⟩
    show y ∈ X.foldl insF (insF acc x) ↔ _
    rw [h2 y, mem_insF]
    simp only [List.mem_cons]
    constructor
    · rintro ((h | h) | h)
      · exact .inl h
      · exact .inr (.inl h)
      · exact .inr (.inr h)
    · rintro (h | h | h)
      · exact .inl (.inl h)
      · exact .inl (.inr h)
      · exact .inr h
theorem ss_nil : SS [] := List.Pairwise.nil
theorem SS.of (X : List R) : SS (ofF X) := (foldl_ins X [] ss_nil).1
theorem mem_ofF (X : List R) (y : R) : y ∈ ofF X ↔ y ∈ X := by rw [ofF, (foldl_ins X [] ss_nil).2 y]; simp
theorem ofF_eq {X Y : List R} (h : SS Y) (hm : ∀ r, r ∈ Y ↔ r ∈ X) : ofF X = Y := SS.ext (SS.of X) h fun r => by rw [mem_ofF, hm]
theorem ofF_self {X : List R} (h : SS X) : ofF X = X := ofF_eq h fun _ => Iff.rfl
theorem insF_length_le (X : List R) (r : R) : (insF X r).length ≤ X.length + 1 := by
  unfold insF
  split
  · omega
  · have := rank_le X r; simp; omega
theorem foldl_ins_length : ∀ (X acc : List R), (X.foldl insF acc).length ≤ acc.length + X.length
  | [], acc => by simp
  | x :: X, acc => by
    have h1 := foldl_ins_length X (insF acc x)
    have h2 := insF_length_le acc x
    show (X.foldl insF (insF acc x)).length ≤ _
    simp; omega
theorem ofF_length_le (X : List R) : (ofF X).length ≤ X.length := by have := foldl_ins_length X []; simpa [ofF] using this

def delF (X : List R) (r : R) : List R := X.filter fun y => !decide (cmpR y r = 0)
theorem mem_delF (X : List R) (r y : R) : y ∈ delF X r ↔ y ∈ X ∧ y ≠ r := by simp [delF, tot_cmpR.z]
theorem SS.del {X : List R} (h : SS X) (r : R) : SS (delF X r) := h.filter _

theorem dedup_ss {X : List R} (h : X.Pairwise fun a b => cmpR a b ≤ 0) (kp : Nat → Bool) (hk : ∀ j (hj : j < X.length), kp j = (decide (j = 0) || !decide (X[j] = X[j - 1]))) :
    SS (((List.range X.length).filter kp).map fun j => X.getD j []) ∧ ∀ r, r ∈ ((List.range X.length).filter kp).map (fun j => X.getD j []) ↔ r ∈ X := by
  have hle : ∀ i j (hj : j < X.length) (hij : i ≤ j), cmpR (X[i]'(by omega)) X[j] ≤ 0 := fun i j hj hij => by
    rcases Nat.lt_or_eq_of_le hij with h1 | rfl
    · exact List.pairwise_iff_getElem.1 h i j (by omega) hj h1
    · rw [tot_cmpR.self]; omega
  have gd : ∀ j (hj : j < X.length), X.getD j [] = X[j] := fun j hj => by simp [List.getD, hj]
  refine ⟨?_, fun r => ⟨fun hm => ?_, fun hm => ?_⟩⟩
  · unfold SS
    rw [List.pairwise_map]
    have h1 : ((List.range X.length).filter kp).Pairwise (· < ·) := List.Pairwise.sublist List.filter_sublist List.pairwise_lt_range
    refine List.Pairwise.imp_of_mem (fun {a b} ha hb hab => ?_) h1
    rw [List.mem_filter, List.mem_range] at ha hb
    rw [gd a ha.1, gd b hb.1]
    have hkb := hb.2
    rw [hk b hb.1] at hkb
    have hne : X[b] ≠ X[b - 1] := by
      simp only [Bool.or_eq_true, decide_eq_true_eq, Bool.not_eq_true', decide_eq_false_iff_not] at hkb
      rcases hkb with h0 | h0
      · omega
      · exact h0
    have g1 := hle a (b - 1) (by omega) (by omega)
    have g2 := hle (b - 1) b hb.1 (by omega)
    have g3 : cmpR X[b - 1] X[b] ≠ 0 := fun e => hne ((tot_cmpR.z _ _).1 e).symm
    exact tot_cmpR.lt_of_le_of_lt g1 (by omega)
  · obtain ⟨j, hj, rfl⟩ := List.mem_map.1 hm
    rw [List.mem_filter, List.mem_range] at hj
    rw [gd j hj.1]
    exact List.getElem_mem hj.1
  · obtain ⟨j, hj, rfl⟩ := List.getElem_of_mem hm
    clear hm
    induction j with
    | zero => exact List.mem_map.2 ⟨0, by rw [List.mem_filter, List.mem_range]; exact ⟨hj, by rw [hk 0 hj]; simp⟩, gd 0 hj⟩
    | succ j ih =>
      cases hkj : kp (j + 1) with
      | true => exact List.mem_map.2 ⟨j + 1, by rw [List.mem_filter, List.mem_range]; exact ⟨hj, hkj⟩, gd _ hj⟩
      | false =>
        rw [hk (j + 1) hj] at hkj
        simp at hkj
        rw [hkj]
        exact ih (by omega)

end Go.Proofs.YtdadchpiibipoaaGreatDoor.RL
end
namespace Go.Proofs.YtdadchpiibipoaaGreatDoor
section
open Go.RowKit Go.Sort Go.Shelf Go.Lib

section
variable {w0 wr : World} {g off : Nat}
def El.lift (hg : w0.grownBy wr (some g)) (e : El w0 g) : El wr g := ⟨e.val, e.row, by
  obtain ⟨A', C', h1, h2, h3, h4, h5, h6⟩ := e.row_at hg
  exact ⟨A', C', h1, h2, h3, h4, h5, h6⟩⟩
theorem HB.lift {d : Array (El w0 g)} (h : HB w0 wr g off d) : HB wr wr g off (d.map (El.lift h.grown)) := by
  refine ⟨⟨rfl, rfl, rfl, Nat.le_refl _, fun _ _ _ => rfl⟩, fun j hj => ?_, h.lt'⟩
  simp only [Array.size_map] at hj
  obtain ⟨h1, h2⟩ := h.holds j hj
  refine ⟨?_, h2⟩
  rw [h1]
  have e : (d.map (El.lift h.grown))[j]! = El.lift h.grown d[j]! := by simp [hj]
  rw [e]
  rfl
theorem lift_rows {d : Array (El w0 g)} (hg : w0.grownBy wr (some g)) : (d.map (El.lift hg)).toList.map El.row = d.toList.map El.row := by
  rw [Array.toList_map, List.map_map]
  rfl

def GoodH (w : World) (g off : Nat) (Y : List RL.R) : Prop := ∀ i (h : i < Y.length), ∃ A' C', w.cell? ⟨g, off + i, none⟩ = some (.slice A' Y[i].length C') ∧ Y[i].length ≤ C' ∧ C' ≤ 9223372036854775807 ∧ SlR w.heap.size w A' Y[i] ∧ (Y[i] ≠ [] → ∀ ad, A' = some ad → ad.block ≠ g) ∧ w.frozen? ⟨g, off + i, none⟩ = false
theorem HB.good {d : Array (El w0 g)} (h : HB w0 wr g off d) : GoodH wr g off (d.toList.map El.row) := fun i hi => by
  simp only [List.length_map, Array.length_toList] at hi
  obtain ⟨c1, c2⟩ := h.holds i hi
  obtain ⟨A', C', h1, h2, h3, h4, _, h6⟩ := (d[i]!).row_at h.grown
  have e : (d.toList.map El.row)[i]'(by simpa using hi) = (d[i]!).row := by simp [hi]
  rw [e]
  exact ⟨A', C', by rw [c1, h1], h2, h3, h4, h6, c2⟩
theorem GoodH.keep {w w' : World} {Y : List RL.R} (h : GoodH w g off Y) (hb : Below w.heap.size w w') (hg : g < w.heap.size) : GoodH w' g off Y := fun i hi => by
  obtain ⟨A', C', h1, h2, h3, h4, h5, h6⟩ := h i hi
  exact ⟨A', C', (hb.cell (p := ⟨g, off + i, none⟩) hg).trans h1, h2, h3, h4.upB hb, h5, (hb.frozen (p := ⟨g, off + i, none⟩) hg).trans h6⟩
theorem GoodH.set {w : World} {Y : List RL.R} (h : GoodH w g off Y) {k : Nat} (hk : k < Y.length) {A' : Option Addr} {C' : Nat} (hc : Y[k].length ≤ C') (hm : C' ≤ 9223372036854775807) (hr : SlR w.heap.size w A' Y[k]) (hne : Y[k] ≠ [] → ∀ ad, A' = some ad → ad.block ≠ g) : GoodH (w.setCell ⟨g, off + k, none⟩ (.slice A' Y[k].length C')) g off Y := fun i hi => by
  obtain ⟨A2, C2, h1, h2, h3, h4, h5, h6⟩ := h i hi
  by_cases e : i = k
  · subst e
    exact ⟨A', C', World.cell?_setCell_same _ _ _ h1, hc, hm, hr.far _ (fun hy ad e => hne hy ad e), hne, by rw [World.frozen?_setCell]; exact h6⟩
  · exact ⟨A2, C2, (World.cell?_setCell_other _ _ _ _ (by intro e3; simp only [Addr.mk.injEq] at e3; omega)).trans h1, h2, h3, h4.far _ (fun hy ad e => h5 hy ad e), h5, by rw [World.frozen?_setCell]; exact h6⟩
def FreshH (w : World) (g off rb : Nat) (Y : List RL.R) (k : Nat) : Prop := ∀ i (_h : i < Y.length), i < k → ∀ A' n C', w.cell? ⟨g, off + i, none⟩ = some (.slice A' n C') → ∀ ad, A' = some ad → rb < ad.block
theorem FreshH.keep {w w' : World} {rb k : Nat} {Y : List RL.R} (h : FreshH w g off rb Y k) (hb : Below w.heap.size w w') (hg : g < w.heap.size) : FreshH w' g off rb Y k := fun i hi hk A' n C' hc =>
  h i hi hk A' n C' ((hb.cell (p := ⟨g, off + i, none⟩) hg).symm.trans hc)
theorem FreshH.set {w : World} {rb k : Nat} {Y : List RL.R} (h : FreshH w g off rb Y k) {A : Option Addr} {n C : Nat} {u : Value} (hu : w.cell? ⟨g, off + k, none⟩ = some u) (hf : ∀ ad, A = some ad → rb < ad.block) : FreshH (w.setCell ⟨g, off + k, none⟩ (.slice A n C)) g off rb Y (k + 1) := fun i hi hk A' n' C' hc ad e => by
  by_cases he : i = k
  · subst he
    rw [World.cell?_setCell_same _ _ _ hu] at hc
    simp at hc
    exact hf ad (by rw [hc.1]; exact e)
  · rw [World.cell?_setCell_other _ _ _ _ (by intro e3; simp only [Addr.mk.injEq] at e3; omega)] at hc
    exact h i hi (by omega) A' n' C' hc ad e
theorem GoodH.final {w : World} {rb : Nat} {Y : List RL.R} (h : GoodH w g off Y) (hf : FreshH w g off rb Y Y.length) (hg : g < w.heap.size) (hne : rb ≠ g) (u0 u1 : Value) (w'' : World)
    (hk : ∀ p : Addr, p.block < ((w.setCell ⟨rb, 0, none⟩ u0).setCell ⟨rb, 1, none⟩ u1).heap.size → (rb ≤ p.block ∨ p.block = g) → w''.cell? p = ((w.setCell ⟨rb, 0, none⟩ u0).setCell ⟨rb, 1, none⟩ u1).cell? p) : SlRs ((w.setCell ⟨rb, 0, none⟩ u0).setCell ⟨rb, 1, none⟩ u1).heap.size w'' (some ⟨g, off, none⟩) Y := fun _ => ⟨g, off, rfl, by simpa using hg, fun i hi => by
  obtain ⟨A', C', h1, h2, h3, h4, _⟩ := h i hi
  refine ⟨A', C', (hk ⟨g, off + i, none⟩ (by simpa using hg) (.inr rfl)).trans (far_cell (q := ⟨g, off + i, none⟩) hne (far_cell (q := ⟨g, off + i, none⟩) hne h1)), h2, h3, ?_⟩
  have h5 := (h4.far (p := ⟨rb, 0, none⟩) u0 (fun _ ad e => by have := hf i hi hi A' _ C' h1 ad e; show ad.block ≠ rb; omega)).far (p := ⟨rb, 1, none⟩) u1 (fun _ ad e => by have := hf i hi hi A' _ C' h1 ad e; show ad.block ≠ rb; omega)
  intro hn
  obtain ⟨b, o, e, hb, hc⟩ := h5 hn
  refine ⟨b, o, e, hb, fun q u hu => (hk ⟨b, o + q, none⟩ hb (.inl ?_)).trans (hc q u hu)⟩
  have := hf i hi hi A' _ C' h1 _ e
  simp only at this ⊢
  omega⟩
end

theorem compact_small (A : Option Addr) (n cap : Nat) (fv : Value) (w : World) (h : n < 2) : Calls Tryz.prog 136 #[.slice A n cap, fv] w fun e w' => e = .returned (.slice A n cap) ∧ w' = w := by
  have h' : (n : Int) < 2 := by omega
  clear h
  go_enter Tryz.func136, Tryz.ntmps136
  go_wp2
  go_ret
  exact ⟨rfl, rfl⟩

theorem compactAsc_any {w0 w : World} {g off : Nat} {d : Array (El w0 g)} (cap : Nat) (h : HB w0 w g off d) (hsz : d.size ≤ 1000000) (h1 : 1 ≤ d.size) (hcap : d.size ≤ cap) (hcm : cap ≤ 9223372036854775807) (ha : Asc (d.toList.map El.row)) :
    Calls Tryz.prog 136 #[.slice (some ⟨g, off, none⟩) d.size cap, .func (.func 83) #[] #[]] w fun e w' => ∃ l : List (El w0 g), e = .returned (.slice (some ⟨g, off, none⟩) (RL.ofF (d.toList.map El.row)).length cap) ∧ l.map El.row = RL.ofF (d.toList.map El.row) ∧ HB w0 w' g off l.toArray := by
  have key : (keptUpTo (kpR d) d d.size).map El.row = RL.ofF (d.toList.map El.row) := by
    have hd := RL.dedup_ss (X := d.toList.map El.row) ha (kpR d) (fun j hj => by
      simp only [List.length_map, Array.length_toList] at hj
      have e1 : (d.toList.map El.row)[j]'(by simpa using hj) = (d[j]!).row := by simp [hj]
      have hj1 : j - 1 < d.size := by omega
      have e2 : (d.toList.map El.row)[j - 1]'(by simpa using hj1) = (d[j - 1]!).row := by simp [hj1]
      rw [e1, e2]; rfl)
    have e : (keptUpTo (kpR d) d d.size).map El.row = ((List.range (d.toList.map El.row).length).filter (kpR d)).map (fun j => (d.toList.map El.row).getD j []) := by
      unfold keptUpTo
      rw [List.map_map]
      simp only [List.length_map, Array.length_toList]
      refine List.map_congr_left fun j hj => ?_
      rw [List.mem_filter, List.mem_range] at hj
      simp [hj.1]
    rw [e]
    exact (RL.ofF_eq hd.1 hd.2).symm
  by_cases h2 : 2 ≤ d.size
  · refine Calls.mono (compactRows_any cap h hsz h2 hcap hcm) fun e w' ⟨l, g1, g2, g3⟩ => ⟨l, ?_, by rw [g2]; exact key, g3⟩
    rw [g1, ← key, g2, List.length_map]
  · have hs : d.size = 1 := by omega
    refine Calls.mono (compact_small (some ⟨g, off, none⟩) d.size cap _ w (by omega)) fun e w' ⟨g1, g2⟩ => ?_
    have e1 : d.toList = keptUpTo (kpR d) d d.size := by
      rw [keptUpTo_all _ _ _ (fun j hj => by simp [kpR]; omega)]
      apply List.ext_getElem (by simp)
      intro i h1 h2
      simp at h1
      simp [h1]
    refine ⟨d.toList, ?_, (congrArg (List.map El.row) e1).trans key, by subst g2; simpa using h⟩
    rw [g1, ← key, List.length_map, ← e1, Array.length_toList]

set_option maxHeartbeats 2000000 in
theorem rlBuild_any {w : World} {g : Nat} {d : Array (El w g)} (ar : Int) (cap : Nat) (h : HB w w g 0 d) (hsz : d.size ≤ 60000) (h1 : 1 ≤ d.size) (hcap : d.size ≤ cap) (hcm : cap ≤ 9223372036854775807) (X : List RL.R) (hX : X = d.toList.map El.row) :
    Calls Tryz.prog 110 #[.int .i64 ar, .slice (some ⟨g, 0, none⟩) d.size cap] w fun e w' => e = .returned (.tuple #[.agg #[.int .i64 ar, .slice (some ⟨g, 0, none⟩) (RL.ofF X).length cap], .int .i64 0]) ∧ (∀ w'', (∀ p : Addr, p.block < w'.heap.size → (w.heap.size ≤ p.block ∨ p.block = g) → w''.cell? p = w'.cell? p) → SlRs w'.heap.size w'' (some ⟨g, 0, none⟩) (RL.ofF X)) ∧ w.grownBy w' (some g) := by
  subst hX
  have hlen := RL.ofF_length_le (d.toList.map El.row)
  simp only [List.length_map, Array.length_toList] at hlen
  obtain ⟨rb, hrb⟩ : ∃ rb, rb = w.heap.size := ⟨_, rfl⟩
  have HW : Hid (HB (w.alloc (.cells #[.int .i64 0, .slice none 0 0] 56)) (w.alloc (.cells #[.int .i64 0, .slice none 0 0] 56)) g 0 (d.map (El.lift (h.ext ((Ext.refl w).alloc (.cells #[.int .i64 0, .slice none 0 0] 56))).grown))) := HB.lift (h.ext ((Ext.refl w).alloc _))
  have HR := Lib.hid (lift_rows (d := d) (h.ext ((Ext.refl w).alloc (.cells #[.int .i64 0, .slice none 0 0] 56))).grown)
  have hds : (d.map (El.lift (h.ext ((Ext.refl w).alloc (.cells #[.int .i64 0, .slice none 0 0] 56))).grown)).size = d.size := by simp
  generalize d.map (El.lift (h.ext ((Ext.refl w).alloc (.cells #[.int .i64 0, .slice none 0 0] 56))).grown) = d1 at HW HR hds
  have gl := HW.out.lt'
  have hg : g < w.heap.size := h.lt
  have HG : Hid (w.grownBy (w.alloc (.cells #[.int .i64 0, .slice none 0 0] 56)) (some g)) := (h.ext ((Ext.refl w).alloc _)).grown
  have hrow := Row.new w 56 [.int .i64 0, .slice none 0 0]
  rw [← hrb] at hrow
  have hz1 : (w.alloc (.cells #[.int .i64 0, .slice none 0 0] 56)).heap.size = rb + 1 := by rw [hrb]; simp
  have HROW := Lib.hid hrow
  have hne : rb ≠ g := by omega
  clear h hrow
  have HOK : Hid (RsOk (RL.ofF (d.toList.map El.row))) := fun x hx => by
    rw [RL.mem_ofF] at hx
    obtain ⟨e, _, rfl⟩ := List.mem_map.1 hx
    obtain ⟨A', C', _, _, _, _, h5, _⟩ := e.ok
    exact h5
  generalize hxx : d.toList.map El.row = X at *
  clear hxx
  -- the calls
  have HIS := Lib.hid (isSortedRows_any cap HW.out (by omega))
  have HSO := Lib.hid (fun (W : World) hB => sortRows_any (wr := W) (off := 0) cap (d := d1) hB (by omega))
  have HCO : Hid (∀ (W : World) (d2 : Array (El (w.alloc (.cells #[.int .i64 0, .slice none 0 0] 56)) g)), HB (w.alloc (.cells #[.int .i64 0, .slice none 0 0] 56)) W g 0 d2 → d2.size = d.size → (d2.toList.map El.row).Perm (d1.toList.map El.row) → Asc (d2.toList.map El.row) →
      Calls Tryz.prog 136 #[.slice (some ⟨g, 0, none⟩) d.size cap, .func (.func 83) #[] #[]] W fun e w' => ∃ l : List (El (w.alloc (.cells #[.int .i64 0, .slice none 0 0] 56)) g), e = .returned (.slice (some ⟨g, 0, none⟩) (RL.ofF X).length cap) ∧ l.map El.row = RL.ofF X ∧ HB (w.alloc (.cells #[.int .i64 0, .slice none 0 0] 56)) w' g 0 l.toArray) := fun W d2 hB hs hp ha => by
    have hc := compactAsc_any cap hB (by omega) (by omega) (by omega) hcm ha
    have e1 : RL.ofF (d2.toList.map El.row) = RL.ofF X := RL.ofF_eq (RL.SS.of X) fun r => by rw [RL.mem_ofF, hp.mem_iff, HR.out]
    rw [e1, hs] at hc
    exact hc
  rw [hds] at HIS HSO
  have HDS := Lib.hid hds
  clear hds
  go_enter Tryz.func110, Tryz.ntmps110
  go_wp2_with fail
  refine HIS.out.mono ?_
  rintro e w2 ⟨c, rfl, hasc, hB2⟩
  have HB2 := Lib.hid hB2
  clear hB2 HIS
  cases c
  · clear hasc
    go_wp2_with fail
    refine (HSO.out _ HB2.out).mono ?_
    rintro e w3 ⟨d2, rfl, hs2, hp2, ha2, hB3⟩
    have HB3 := Lib.hid hB3
    have HP2 := Lib.hid hp2
    have HA2 := Lib.hid ha2
    have HS2 := Lib.hid hs2
    clear hB3 hp2 ha2 hs2 HB2
    go_wp2_with fail
    refine (HCO.out _ d2 HB3.out HS2.out HP2.out HA2.out).mono ?_
    rintro e w4 ⟨l, rfl, hl, hB4⟩
    have HGD : Hid (GoodH w4 g 0 (RL.ofF X)) := by
      have h := hB4.good
      simp only [] at h
      rw [hl] at h
      exact h
    have HR4 := Lib.hid (HROW.out.grown hB4.grown (fun e => hne (by injection e)))
    have HG4 : Hid (w.grownBy w4 (some g)) := ⟨hB4.grown.os, hB4.grown.tape, hB4.grown.output, Nat.le_trans (by simp) hB4.grown.size, fun k hk hkn => (hB4.grown.block k (by simp; omega) hkn).trans (Below.heap_alloc w _ k hk)⟩
    have HGL := hB4.lt'
    have hrl4 := HR4.out.lt
    clear hB4 hl HB3 HP2 HA2 HS2 HCO HSO HROW HG HW HR
    go_wp2
    go_loopw [20] (fun i wr => ∃ k : Nat, k ≤ (RL.ofF X).length ∧ i = .int .i64 k ∧ GoodH wr g 0 (RL.ofF X) ∧ FreshH wr g 0 rb (RL.ofF X) k ∧ Row wr rb 56 [.int .i64 0, .slice none 0 0] ∧ g < wr.heap.size ∧ w.grownBy wr (some g)) (fun i _ => (RL.ofF X).length - (intOf i).toNat)
    case atStart => exact ⟨0, Nat.zero_le _, rfl, HGD.out, fun i _ h => absurd h (by omega), HR4.out, HGL, HG4.out⟩
    case round =>
      obtain ⟨k, hk, rfl, hgd, hfh, hrw, hgl, hgr⟩ := hrel
      have HGD2 := Lib.hid hgd
      have HFH := Lib.hid hfh
      clear hfh
      have HRW := Lib.hid hrw
      have HGR := Lib.hid hgr
      have hrl := hrw.lt
      clear HGD HR4 HG4
      by_cases hlt : k < (RL.ofF X).length
      · obtain ⟨A1, C1, c1, hc1, hm1, s1, n1, f1⟩ := hgd k hlt
        rw [Nat.zero_add] at c1 f1
        have HC := Lib.hid (cloneRow_any A1 C1 (RL.ofF X)[k] wr s1 (HOK.out _ (List.getElem_mem hlt)).1)
        generalize hxl : (RL.ofF X)[k].length = xl at c1
        have HXL := Lib.hid hxl
        rw [hxl] at HC
        clear hgd hrw hgr s1 n1 hc1 hm1 hxl
        go_wp2_with fail
        refine HC.out.mono ?_
        rintro e w5 ⟨v5, rfl, hown5, hb5⟩
        rw [← HXL.out] at hown5
        obtain ⟨-, A2, C2, rfl, hc2, hm2, hs2, hfr⟩ := SlR.of_own hown5
        have HS5 := Lib.hid ((HGD2.out.keep hb5 hgl).set hlt hc2 hm2 hs2 (fun _ ad e => by have := hfr ad e; omega))
        have HR5 := Lib.hid ((HRW.out.below hb5 hrl).far (p := ⟨g, k, none⟩) hne (.slice A2 (RL.ofF X)[k].length C2))
        have hz5 := hb5.size
        have c5 := (hb5.cell (p := ⟨g, k, none⟩) hgl).trans c1
        have f5 := (hb5.frozen (p := ⟨g, k, none⟩) hgl).trans f1
        have HG5 : Hid (w.grownBy (w5.setCell ⟨g, k, none⟩ (.slice A2 (RL.ofF X)[k].length C2)) (some g)) := ⟨hb5.os.trans HGR.out.os, hb5.tape.trans HGR.out.tape, hb5.output.trans HGR.out.output, by simpa using Nat.le_trans HGR.out.size hb5.size, fun j hj hjn => by
          rw [Below.heap_setCell _ _ _ _ (fun e => hjn (by rw [e]))]
          exact (hb5.block j (Nat.lt_of_lt_of_le hj HGR.out.size)).trans (HGR.out.block j hj hjn)⟩
        have HF5 := Lib.hid ((HFH.out.keep hb5 hgl).set (A := A2) (n := (RL.ofF X)[k].length) (C := C2) (by rw [Nat.zero_add]; exact c5) (fun ad e => by have := hfr ad e; omega))
        rw [Nat.zero_add] at HS5 HF5
        rw [HXL.out] at HS5 HR5 HG5 HF5 ⊢
        clear hown5 hb5 hs2 hfr HC c1 f1 HGD2 HRW HGR
        go_wp2
        go_roundw
        case rel => exact ⟨k + 1, by omega, by go_num, HS5.out, HF5.out, HR5.out, by simp; omega, HG5.out⟩
        case measure => simp [intOf]; omega
      · subst hrb
        have r0 := hrw.cell 0
        have r1 := hrw.cell 1
        have f0 := hrw.frozen 0
        have f1 := hrw.frozen 1
        simp only [List.getElem?_cons_zero, List.getElem?_cons_succ] at r0 r1
        have hke : k = (RL.ofF X).length := by omega
        have HSL := Lib.hid (hgd.final (rb := w.heap.size) (by rw [← hke]; exact HFH.out) hgl hne (.int .i64 ar) (.slice (some ⟨g, 0, none⟩) (RL.ofF X).length cap))
        have HG6 : Hid (w.grownBy ((wr.setCell ⟨w.heap.size, 0, none⟩ (.int .i64 ar)).setCell ⟨w.heap.size, 1, none⟩ (.slice (some ⟨g, 0, none⟩) (RL.ofF X).length cap)) (some g)) := ⟨hgr.os, hgr.tape, hgr.output, by simpa using hgr.size, fun j hj hjn => by
          rw [Below.heap_setCell _ _ _ _ (fun e => by simp only at e; omega), Below.heap_setCell _ _ _ _ (fun e => by simp only at e; omega)]
          exact hgr.block j hj hjn⟩
        have z0 : (wr.setCell ⟨w.heap.size, 0, none⟩ (.int .i64 ar)).cell? ⟨w.heap.size, 0, none⟩ = some (.int .i64 ar) := World.cell?_setCell_same _ _ _ r0
        have z1 : ((wr.setCell ⟨w.heap.size, 0, none⟩ (.int .i64 ar)).setCell ⟨w.heap.size, 1, none⟩ (.slice (some ⟨g, 0, none⟩) (RL.ofF X).length cap)).cell? ⟨w.heap.size, 1, none⟩ = some (.slice (some ⟨g, 0, none⟩) (RL.ofF X).length cap) := World.cell?_setCell_same _ _ _ ((World.cell?_setCell_other _ _ _ _ (by simp)).trans r1)
        have Z0 := Lib.hid z0
        have Z1 := Lib.hid z1
        clear hgd hrw z0 z1 hke
        go_wp2
        exact bodyPost_ret (v := .tuple #[.agg #[.int .i64 ar, .slice (some ⟨g, 0, none⟩) (RL.ofF X).length cap], .int .i64 0]) (by simp [results, Tryz.results110, go_sem, Z0.out, Z1.out]) rfl ⟨rfl, HSL.out, HG6.out⟩
  · obtain ⟨d2, hd2⟩ : ∃ d2, d2 = d1 := ⟨_, rfl⟩
    subst hd2
    have HA2 := Lib.hid (hasc rfl)
    have HP2 := Lib.hid (List.Perm.refl (d2.toList.map El.row))
    have HS2 := Lib.hid HDS.out
    obtain ⟨w3, hw3⟩ : ∃ w3, w3 = w2 := ⟨_, rfl⟩
    subst hw3
    have HB3 := Lib.hid HB2.out
    clear hasc HB2
    go_wp2_with fail
    refine (HCO.out _ d2 HB3.out HS2.out HP2.out HA2.out).mono ?_
    rintro e w4 ⟨l, rfl, hl, hB4⟩
    have HGD : Hid (GoodH w4 g 0 (RL.ofF X)) := by
      have h := hB4.good
      simp only [] at h
      rw [hl] at h
      exact h
    have HR4 := Lib.hid (HROW.out.grown hB4.grown (fun e => hne (by injection e)))
    have HG4 : Hid (w.grownBy w4 (some g)) := ⟨hB4.grown.os, hB4.grown.tape, hB4.grown.output, Nat.le_trans (by simp) hB4.grown.size, fun k hk hkn => (hB4.grown.block k (by simp; omega) hkn).trans (Below.heap_alloc w _ k hk)⟩
    have HGL := hB4.lt'
    have hrl4 := HR4.out.lt
    clear hB4 hl HB3 HP2 HA2 HS2 HCO HSO HROW HG HW HR
    go_wp2
    go_loopw [20] (fun i wr => ∃ k : Nat, k ≤ (RL.ofF X).length ∧ i = .int .i64 k ∧ GoodH wr g 0 (RL.ofF X) ∧ FreshH wr g 0 rb (RL.ofF X) k ∧ Row wr rb 56 [.int .i64 0, .slice none 0 0] ∧ g < wr.heap.size ∧ w.grownBy wr (some g)) (fun i _ => (RL.ofF X).length - (intOf i).toNat)
    case atStart => exact ⟨0, Nat.zero_le _, rfl, HGD.out, fun i _ h => absurd h (by omega), HR4.out, HGL, HG4.out⟩
    case round =>
      obtain ⟨k, hk, rfl, hgd, hfh, hrw, hgl, hgr⟩ := hrel
      have HGD2 := Lib.hid hgd
      have HFH := Lib.hid hfh
      clear hfh
      have HRW := Lib.hid hrw
      have HGR := Lib.hid hgr
      have hrl := hrw.lt
      clear HGD HR4 HG4
      by_cases hlt : k < (RL.ofF X).length
      · obtain ⟨A1, C1, c1, hc1, hm1, s1, n1, f1⟩ := hgd k hlt
        rw [Nat.zero_add] at c1 f1
        have HC := Lib.hid (cloneRow_any A1 C1 (RL.ofF X)[k] wr s1 (HOK.out _ (List.getElem_mem hlt)).1)
        generalize hxl : (RL.ofF X)[k].length = xl at c1
        have HXL := Lib.hid hxl
        rw [hxl] at HC
        clear hgd hrw hgr s1 n1 hc1 hm1 hxl
        go_wp2_with fail
        refine HC.out.mono ?_
        rintro e w5 ⟨v5, rfl, hown5, hb5⟩
        rw [← HXL.out] at hown5
        obtain ⟨-, A2, C2, rfl, hc2, hm2, hs2, hfr⟩ := SlR.of_own hown5
        have HS5 := Lib.hid ((HGD2.out.keep hb5 hgl).set hlt hc2 hm2 hs2 (fun _ ad e => by have := hfr ad e; omega))
        have HR5 := Lib.hid ((HRW.out.below hb5 hrl).far (p := ⟨g, k, none⟩) hne (.slice A2 (RL.ofF X)[k].length C2))
        have hz5 := hb5.size
        have c5 := (hb5.cell (p := ⟨g, k, none⟩) hgl).trans c1
        have f5 := (hb5.frozen (p := ⟨g, k, none⟩) hgl).trans f1
        have HG5 : Hid (w.grownBy (w5.setCell ⟨g, k, none⟩ (.slice A2 (RL.ofF X)[k].length C2)) (some g)) := ⟨hb5.os.trans HGR.out.os, hb5.tape.trans HGR.out.tape, hb5.output.trans HGR.out.output, by simpa using Nat.le_trans HGR.out.size hb5.size, fun j hj hjn => by
          rw [Below.heap_setCell _ _ _ _ (fun e => hjn (by rw [e]))]
          exact (hb5.block j (Nat.lt_of_lt_of_le hj HGR.out.size)).trans (HGR.out.block j hj hjn)⟩
        have HF5 := Lib.hid ((HFH.out.keep hb5 hgl).set (A := A2) (n := (RL.ofF X)[k].length) (C := C2) (by rw [Nat.zero_add]; exact c5) (fun ad e => by have := hfr ad e; omega))
        rw [Nat.zero_add] at HS5 HF5
        rw [HXL.out] at HS5 HR5 HG5 HF5 ⊢
        clear hown5 hb5 hs2 hfr HC c1 f1 HGD2 HRW HGR
        go_wp2
        go_roundw
        case rel => exact ⟨k + 1, by omega, by go_num, HS5.out, HF5.out, HR5.out, by simp; omega, HG5.out⟩
        case measure => simp [intOf]; omega
      · subst hrb
        have r0 := hrw.cell 0
        have r1 := hrw.cell 1
        have f0 := hrw.frozen 0
        have f1 := hrw.frozen 1
        simp only [List.getElem?_cons_zero, List.getElem?_cons_succ] at r0 r1
        have hke : k = (RL.ofF X).length := by omega
        have HSL := Lib.hid (hgd.final (rb := w.heap.size) (by rw [← hke]; exact HFH.out) hgl hne (.int .i64 ar) (.slice (some ⟨g, 0, none⟩) (RL.ofF X).length cap))
        have HG6 : Hid (w.grownBy ((wr.setCell ⟨w.heap.size, 0, none⟩ (.int .i64 ar)).setCell ⟨w.heap.size, 1, none⟩ (.slice (some ⟨g, 0, none⟩) (RL.ofF X).length cap)) (some g)) := ⟨hgr.os, hgr.tape, hgr.output, by simpa using hgr.size, fun j hj hjn => by
          rw [Below.heap_setCell _ _ _ _ (fun e => by simp only at e; omega), Below.heap_setCell _ _ _ _ (fun e => by simp only at e; omega)]
          exact hgr.block j hj hjn⟩
        have z0 : (wr.setCell ⟨w.heap.size, 0, none⟩ (.int .i64 ar)).cell? ⟨w.heap.size, 0, none⟩ = some (.int .i64 ar) := World.cell?_setCell_same _ _ _ r0
        have z1 : ((wr.setCell ⟨w.heap.size, 0, none⟩ (.int .i64 ar)).setCell ⟨w.heap.size, 1, none⟩ (.slice (some ⟨g, 0, none⟩) (RL.ofF X).length cap)).cell? ⟨w.heap.size, 1, none⟩ = some (.slice (some ⟨g, 0, none⟩) (RL.ofF X).length cap) := World.cell?_setCell_same _ _ _ ((World.cell?_setCell_other _ _ _ _ (by simp)).trans r1)
        have Z0 := Lib.hid z0
        have Z1 := Lib.hid z1
        clear hgd hrw z0 z1 hke
        go_wp2
        exact bodyPost_ret (v := .tuple #[.agg #[.int .i64 ar, .slice (some ⟨g, 0, none⟩) (RL.ofF X).length cap], .int .i64 0]) (by simp [results, Tryz.results110, go_sem, Z0.out, Z1.out]) rfl ⟨rfl, HSL.out, HG6.out⟩
end
section
open Go.RowKit Go.Sort Go.Shelf Go.Lib

set_option maxHeartbeats 400000 in
theorem rlBuild_nil (ar : Int) (A : Option Addr) (C : Nat) (w : World) :
    Calls Tryz.prog 110 #[.int .i64 ar, .slice A 0 C] w fun e w' => e = .returned (.tuple #[.agg #[.int .i64 ar, .slice A 0 C], .int .i64 0]) ∧ Ext w w' := by
  have HI := Lib.hid (fun W => Any.slices_IsSortedFunc_none lIsSorted A C (.func (.func 93) #[] #[]) W)
  have HC := Lib.hid (fun W => compact_small A 0 C (.func (.func 83) #[] #[]) W (by omega))
  go_enter Tryz.func110, Tryz.ntmps110
  go_wp2_with (first | (go_at_call 134; refine (HI.out _).mono ?_; rintro e w' ⟨rfl, rfl⟩) | (go_at_call 136; refine (HC.out _).mono ?_; rintro e w' ⟨rfl, rfl⟩) | fail)
  refine wp_loop_rounds 1 ?_
  rw [rounds_succ]
  go_wp2
  exact bodyPost_ret (v := .tuple #[.agg #[.int .i64 ar, .slice A 0 C], .int .i64 0]) (by simp [results, Tryz.results110, go_sem]) rfl ⟨rfl, (Ext.refl w).alloc _⟩

def errF (n : Int) : List RL.R → Int
  | [] => 0
  | x :: X => if wrongF n x = 0 then errF n X else wrongF n x
theorem errF_zero {n : Int} : ∀ {X : List RL.R}, errF n X = 0 ↔ ∀ x ∈ X, wrongF n x = 0
  | [] => by simp [errF]
  | x :: X => by
    simp only [errF, List.mem_cons, forall_eq_or_imp]
    split
    · rename_i h; rw [errF_zero]; simp [h]
    · rename_i h; simp [h]

def FreshRs (lo : Nat) (w' : World) (A : Option Addr) (X : List RL.R) : Prop := ∀ w'', (∀ p : Addr, lo ≤ p.block → p.block < w'.heap.size → w''.cell? p = w'.cell? p) → SlRs w'.heap.size w'' A X
theorem FreshRs.nil {lo : Nat} {w' : World} {A : Option Addr} : FreshRs lo w' A [] := fun _ _ => SlRs.nil
def RelNew (lo : Nat) (w' : World) (n : Int) (X : List RL.R) (v : Value) : Prop := ∃ A C, v = .agg #[.int .i64 n, .slice A X.length C] ∧ X.length ≤ C ∧ C ≤ 9223372036854775807 ∧ FreshRs lo w' A X
theorem OwnRs.hb {w : World} {B : Nat} {E : TypeId} {v : Value} {X : List RL.R} (h : OwnRs w B E v X) (hok : RsOk X) (hn : X ≠ []) :
    ∃ g cap, ∃ d : Array (El w g), v = .slice (some ⟨g, 0, none⟩) X.length cap ∧ X.length ≤ cap ∧ cap ≤ 9223372036854775807 ∧ B ≤ g ∧ d.size = X.length ∧ X = d.toList.map El.row ∧ HB w w g 0 d := by
  obtain ⟨hs, h1, h2⟩ := h
  have hl : hs.length = X.length := by have := h1.1; omega
  have hpos : 0 < X.length := by cases X with | nil => exact absurd rfl hn | cons _ _ => simp
  rcases h1.2 with ⟨_, h0⟩ | ⟨g, cap, cur, rfl, hg, hb, hnc, hcm, hsz, ht⟩
  · omega
  have pick : ∀ i (hi : i < X.length), ∃ e : El w g, hs[i]? = some e.val ∧ e.row = X[i] := fun i hi => by
    obtain ⟨A', C', g1, g2, g3, g4, g5⟩ := h2 i hi
    exact ⟨⟨.slice A' X[i].length C', X[i], A', C', rfl, g2, g3, g4, hok.at_ hi, fun hy ad e e2 => g5 hy ad e (by rw [← e2]; rfl)⟩, g1, rfl⟩
  obtain ⟨F, hF⟩ : ∃ F : Nat → El w g, ∀ i (hi : i < X.length), hs[i]? = some (F i).val ∧ (F i).row = X[i] :=
    ⟨fun i => if hi : i < X.length then (pick i hi).choose else default, fun i hi => by simp only [hi, dif_pos]; exact (pick i hi).choose_spec⟩
  refine ⟨g, cap, ((List.range X.length).map F).toArray, rfl, hnc, by unfold maxLen at hcm; omega, hg, by simp, ?_, ?_⟩
  · apply List.ext_getElem (by simp)
    intro i h3 h4
    simp only [List.getElem_map, List.getElem_range]
    exact (hF i h3).2.symm
  · refine ⟨⟨rfl, rfl, rfl, Nat.le_refl _, fun _ _ _ => rfl⟩, fun j hj => ?_, ?_⟩
    · have hj' : j < X.length := by simpa using hj
      have e : ((List.range X.length).map F).toArray[j]! = F j := by
        rw [getElem!_pos ((List.range X.length).map F).toArray j hj]
        simp
      rw [e]
      have hc := (hF j hj').1
      refine ⟨?_, ?_⟩
      · rw [Nat.mul_one] at ht
        have hc2 : (cur.toList.take X.length)[j]? = some (F j).val := by rw [ht]; exact hc
        rw [List.getElem?_take_of_lt hj'] at hc2
        simp only [World.cell?, hb, Nat.zero_add]
        simp only [Option.isSome_none, Bool.false_eq_true, if_false]
        rw [← Array.getElem?_toList]
        exact hc2
      · simp [World.frozen?, hb]
    · rcases Nat.lt_or_ge g w.heap.size with hlt | hge
      · exact hlt
      · rw [Array.getElem?_eq_none hge] at hb; cases hb

def OfPost (w : World) (n : Int) (X : List RL.R) (e : Ending) (w' : World) : Prop :=
  (errF n X = 0 → ∃ v, e = .returned (.tuple #[v, .int .i64 0]) ∧ RelNew w.heap.size w' n (RL.ofF X) v) ∧ (errF n X ≠ 0 → e = .returned (.tuple #[.agg #[.int .i64 0, .slice none 0 0], .int .i64 (errF n X)])) ∧ Below w.heap.size w w'

theorem errF_drop {n : Int} {X : List RL.R} {k : Nat} (h : k < X.length) : errF n (X.drop k) = if wrongF n X[k] = 0 then errF n (X.drop (k + 1)) else wrongF n X[k] := by
  rw [List.drop_eq_getElem_cons h]; rfl

set_option maxHeartbeats 2000000 in
theorem rlOf_any (n : Int) (A : Option Addr) (C : Nat) (X : List RL.R) (w : World) (h0 : 0 ≤ n) (h32 : n ≤ 32) (hX : SlRs w.heap.size w A X) (hok : RsOk X) (hl : X.length ≤ 60000) :
    Calls Tryz.prog 94 #[.int .i64 n, .slice A X.length C] w (OfPost w n X) := by
  have HC := Lib.hid (fun W => rlNew_ok n W h0 h32)
  have HX := Lib.hid hX
  have HOK := Lib.hid hok
  clear hX hok
  go_enter Tryz.func94, Tryz.ntmps94
  go_wp2_with fail
  refine (HC.out _).mono ?_
  rintro e w1 ⟨rfl, hx1⟩
  have r1 := (Row.new w 56 [.int .i64 0, .slice none 0 0]).below hx1.below (by simp)
  have HR := Lib.hid (r1.alloc (.cells #[.int .i64 n, .slice none 0 0] 56))
  have hz := r1.lt
  have HB := Lib.hid ((Below.box hx1.below (by simp)).alloc (show w.heap.size ≤ w1.heap.size by omega) (.cells #[.int .i64 n, .slice none 0 0] 56))
  have HN := Lib.hid (Row.new w1 56 [.int .i64 n, .slice none 0 0])
  clear r1 hx1 HC
  have HE0 := Lib.hid (Ext.refl (w1.alloc (.cells #[.int .i64 n, .slice none 0 0] 56)))
  have hz2 : (w1.alloc (.cells #[.int .i64 n, .slice none 0 0] 56)).heap.size = w1.heap.size + 1 := by simp
  have HX1 := Lib.hid ((HX.out.below HB.out (Nat.le_refl _)).more HB.out.size)
  go_wp2
  generalize w1.alloc (.cells #[.int .i64 n, .slice none 0 0] 56) = W0 at *
  go_loopw [21] (fun i wr => ∃ k : Nat, k ≤ X.length ∧ i = .int .i64 k ∧ errF n X = errF n (X.drop k) ∧ Ext W0 wr) (fun i _ => X.length - (intOf i).toNat)
  case atStart => exact ⟨0, Nat.zero_le _, rfl, by simp, HE0.out⟩
  case round =>
    obtain ⟨k, hk, rfl, hd, he⟩ := hrel
    have HD := Lib.hid hd
    have HE := Lib.hid he
    clear hd HE0
    by_cases hlt : k < X.length
    · have HRw := Lib.hid (HR.out.below he.below (by omega))
      have HNw := Lib.hid (HN.out.below he.below (by omega))
      have n0 : wr.cell? ⟨w1.heap.size, 0, none⟩ = some (.int .i64 n) := HNw.out.cell 0
      have n1 : wr.cell? ⟨w1.heap.size, 1, none⟩ = some (.slice none 0 0) := HNw.out.cell 1
      obtain ⟨b, o, A1, C1, rfl, hb, c1, -, -, s1⟩ := slRs_at (HX1.out.up he) hlt
      have HC := Lib.hid (fun W (hx : Ext wr W) => rlAccepts_any n none A1 0 0 C1 X[k] W (s1.up hx) (HOK.out.at_ hlt))
      have HDK := Lib.hid (HD.out.trans (errF_drop hlt))
      clear s1
      generalize X[k] = x at c1 HC HDK
      go_wp2
      go_still_tail 5, (by kernel_rfl)
      go_wp2_with fail
      refine (HC.out _ (Ext.refl _).drew).mono ?_
      rintro e w3 ⟨rfl, hx3⟩
      have HE3 := Lib.hid (HE.out.drew.trans hx3)
      clear HC c1 n0 n1 hx3
      by_cases hw : wrongF n x = 0
      · have hw2 : (wrongF n x != 0) = false := by simpa using hw
        have HDK2 := Lib.hid (HDK.out.trans (if_pos hw))
        clear hw
        generalize wrongF n x = q at *
        go_wp2
        go_roundw
        case rel => exact ⟨k + 1, by omega, by go_num, HDK2.out, HE3.out⟩
        case measure => simp [intOf]; omega
      · have hw2 : (wrongF n x != 0) = true := by simpa using hw
        have HDK2 := Lib.hid (HDK.out.trans (if_neg hw))
        have HNE := Lib.hid hw
        have r3 := HR.out.below HE3.out.below (by omega)
        have c0 : w3.cell? ⟨w.heap.size, 0, none⟩ = some (.int .i64 0) := r3.cell 0
        have c1 : w3.cell? ⟨w.heap.size, 1, none⟩ = some (.slice none 0 0) := r3.cell 1
        have f0 := r3.frozen 0
        have f1 := r3.frozen 1
        have HB3 := Lib.hid (Below.then HB.out HE3.out.below (by omega))
        clear hw r3
        generalize wrongF n x = q at *
        go_wp2
        refine bodyPost_ret (v := .tuple #[.agg #[.int .i64 0, .slice none 0 0], .int .i64 q]) (by simp [results, Tryz.results94, go_sem, c0, c1]) rfl ⟨?_, ?_, ?_⟩
        · intro h; rw [HDK2.out] at h; exact absurd h HNE.out
        · intro _; rw [HDK2.out]
        · exact (HB3.out.setCell (p := ⟨w.heap.size, 0, none⟩) (Nat.le_refl _) _).setCell (p := ⟨w.heap.size, 1, none⟩) (Nat.le_refl _) _
    · have HZ : Hid (errF n X = 0) := by
        show _ = _
        rw [HD.out, List.drop_of_length_le (by omega)]; rfl
      have HCL := Lib.hid (cloneRows_any A C X wr (HX1.out.up he) (by omega))
      go_wp2_with fail
      refine HCL.out.mono ?_
      rintro e w3 ⟨v3, rfl, hown3, -, hb3⟩
      have HO3 := Lib.hid hown3
      have HB3 := Lib.hid (Below.then (Below.then HB.out he.below (by omega)) hb3 (by have := he.size; omega))
      have r3 := (HR.out.below he.below (by omega)).below hb3 (by have := he.size; omega)
      have hbase := hown3.base
      have HR3 := Lib.hid r3
      have hwz : w.heap.size < wr.heap.size := by have := he.size; omega
      clear hown3 hb3 HCL r3
      by_cases hnil : X = []
      · subst hnil
        obtain ⟨A3, C3, rfl, hc3, hm3, -⟩ := HO3.out.sl
        simp only [List.length_nil] at *
        go_wp2_with fail
        refine (rlBuild_nil n A3 C3 _).mono ?_
        rintro e w4 ⟨rfl, hx4⟩
        have r4 := HR3.out.below hx4.below HR3.out.lt
        have c0 : w4.cell? ⟨w.heap.size, 0, none⟩ = some (.int .i64 0) := r4.cell 0
        have c1 : w4.cell? ⟨w.heap.size, 1, none⟩ = some (.slice none 0 0) := r4.cell 1
        have f0 := r4.frozen 0
        have f1 := r4.frozen 1
        have hz4 := r4.lt
        have HB4 := Lib.hid (Below.then HB3.out hx4.below HB3.out.size)
        have z0 : (w4.setCell ⟨w.heap.size, 0, none⟩ (.int .i64 n)).cell? ⟨w.heap.size, 0, none⟩ = some (.int .i64 n) := World.cell?_setCell_same _ _ _ c0
        have z1 : ((w4.setCell ⟨w.heap.size, 0, none⟩ (.int .i64 n)).setCell ⟨w.heap.size, 1, none⟩ (.slice A3 0 C3)).cell? ⟨w.heap.size, 1, none⟩ = some (.slice A3 0 C3) := World.cell?_setCell_same _ _ _ ((World.cell?_setCell_other _ _ _ _ (by simp)).trans c1)
        have Z0 := Lib.hid z0
        have Z1 := Lib.hid z1
        clear r4 hx4 z0 z1
        go_wp2
        refine bodyPost_ret (v := .tuple #[.agg #[.int .i64 n, .slice A3 0 C3], .int .i64 0]) (by simp [results, Tryz.results94, go_sem, Z0.out, Z1.out]) rfl ⟨?_, ?_, ?_⟩
        · intro _
          exact ⟨_, rfl, A3, C3, rfl, by simp [RL.ofF], hm3, FreshRs.nil⟩
        · intro h; exact absurd HZ.out h
        · exact (HB4.out.setCell (p := ⟨w.heap.size, 0, none⟩) (Nat.le_refl _) _).setCell (p := ⟨w.heap.size, 1, none⟩) (Nat.le_refl _) _
      · obtain ⟨g, cap, d, rfl, hcap, hcm, hgB, hds, hrows, hHB⟩ := HO3.out.hb HOK.out hnil
        have hpos : 1 ≤ X.length := by cases X with | nil => exact absurd rfl hnil | cons _ _ => simp
        have HBU := Lib.hid (rlBuild_any n cap hHB (by omega) (by omega) (by omega) hcm X hrows)
        rw [hds] at HBU
        have HG := Lib.hid hHB.lt
        clear hHB hrows hds hnil
        go_wp2_with fail
        refine HBU.out.mono ?_
        rintro e w4 ⟨rfl, hs4, hg4⟩
        have hne : w.heap.size ≠ g := by omega
        have r4 := HR3.out.grown hg4 (fun e => hne (by injection e))
        have c0 : w4.cell? ⟨w.heap.size, 0, none⟩ = some (.int .i64 0) := r4.cell 0
        have c1 : w4.cell? ⟨w.heap.size, 1, none⟩ = some (.slice none 0 0) := r4.cell 1
        have f0 := r4.frozen 0
        have f1 := r4.frozen 1
        have hz4 := r4.lt
        have HB4 := Lib.hid (HB3.out.grown hg4 (by have := HR3.out.lt; omega) (fun k hk => by injection hk with hk; omega))
        have z0 : (w4.setCell ⟨w.heap.size, 0, none⟩ (.int .i64 n)).cell? ⟨w.heap.size, 0, none⟩ = some (.int .i64 n) := World.cell?_setCell_same _ _ _ c0
        have z1 : ((w4.setCell ⟨w.heap.size, 0, none⟩ (.int .i64 n)).setCell ⟨w.heap.size, 1, none⟩ (.slice (some ⟨g, 0, none⟩) (RL.ofF X).length cap)).cell? ⟨w.heap.size, 1, none⟩ = some (.slice (some ⟨g, 0, none⟩) (RL.ofF X).length cap) := World.cell?_setCell_same _ _ _ ((World.cell?_setCell_other _ _ _ _ (by simp)).trans c1)
        have Z0 := Lib.hid z0
        have Z1 := Lib.hid z1
        have h3z := HR3.out.lt
        have HSL : Hid (FreshRs w.heap.size ((w4.setCell ⟨w.heap.size, 0, none⟩ (.int .i64 n)).setCell ⟨w.heap.size, 1, none⟩ (.slice (some ⟨g, 0, none⟩) (RL.ofF X).length cap)) (some ⟨g, 0, none⟩) (RL.ofF X)) := fun w'' hk => by
          have h := hs4 w'' (fun p hpl hp => by
            have hpn : p.block ≠ w.heap.size := by rcases hp with hp | hp <;> omega
            rw [hk p (by rcases hp with hp | hp <;> omega) (by simpa using hpl)]
            exact (far_cell (p := ⟨w.heap.size, 1, none⟩) (fun e => hpn e.symm) (far_cell (p := ⟨w.heap.size, 0, none⟩) (fun e => hpn e.symm) rfl)))
          simpa using h
        clear r4 hs4 hg4 z0 z1
        have hofl := RL.ofF_length_le X
        go_wp2
        refine bodyPost_ret (v := .tuple #[.agg #[.int .i64 n, .slice (some ⟨g, 0, none⟩) (RL.ofF X).length cap], .int .i64 0]) (by simp [results, Tryz.results94, go_sem, Z0.out, Z1.out]) rfl ⟨?_, ?_, ?_⟩
        · intro _
          exact ⟨_, rfl, _, cap, rfl, by omega, hcm, HSL.out⟩
        · intro h; exact absurd HZ.out h
        · exact (HB4.out.setCell (p := ⟨w.heap.size, 0, none⟩) (Nat.le_refl _) _).setCell (p := ⟨w.heap.size, 1, none⟩) (Nat.le_refl _) _
end
section
open Go.RowKit Go.Sort

theorem SlRs.hdrs {B : Nat} {w : World} {A : Option Addr} {Y : List RL.R} (h : SlRs B w A Y) : ∃ hs : List Value, hs.length = Y.length ∧ (∀ u ∈ hs, u.oneCell' = true) ∧ (∀ ad, A = some ad → ∀ j u, hs[j]? = some u → w.cell? (ad.add j) = some u) ∧ (A = none → Y = []) ∧
    ∀ i (h : i < Y.length), ∃ A' C', hs[i]? = some (.slice A' Y[i].length C') ∧ Y[i].length ≤ C' ∧ C' ≤ 9223372036854775807 ∧ SlR B w A' Y[i] := by
  by_cases hn : Y = []
  · subst hn
    exact ⟨[], rfl, by simp, fun _ _ j u hu => by simp at hu, fun _ => rfl, fun i hi => absurd hi (by simp)⟩
  obtain ⟨b, o, rfl, hb, hc⟩ := h hn
  refine ⟨(List.range Y.length).map fun i => (w.cell? ⟨b, o + i, none⟩).getD (.slice none 0 0), by simp, ?_, ?_, by simp, ?_⟩
  · intro u hu
    simp at hu
    obtain ⟨i, hi, rfl⟩ := hu
    obtain ⟨A', C', h1, _⟩ := hc i hi
    rw [h1]; rfl
  · intro ad e j u hu
    injection e with e
    subst e
    rw [Addr.add_lit]
    obtain ⟨hj, e⟩ := List.getElem?_eq_some_iff.1 hu
    simp at hj
    simp at e
    obtain ⟨A', C', h1, _⟩ := hc j hj
    rw [h1] at e ⊢
    rw [← e]; rfl
  · intro i hi
    obtain ⟨A', C', h1, h2, h3, h4⟩ := hc i hi
    refine ⟨A', C', ?_, h2, h3, h4⟩
    rw [List.getElem?_eq_getElem (by simpa using hi)]
    simp [h1]

theorem run_append_none {P : Program} (w : World) (base : Nat) (t ty e : TypeId) (i : TypeInfo) (size : Nat) (ht : P.underlying t = some (.slice e)) (hi : P.info? e = some i)
    (v : Value) (n : Nat) (xs : List Value) (hown : w.ownsRow base e size v n xs) (c : Nat) : (Builtin.append_ #[t, t] ty #[v, .slice none 0 c]).run P w = .ok v w := by
  rcases hown.2 with ⟨rfl, rfl⟩ | ⟨g, cap, cur, rfl, _, _, hnc, _⟩
  · simp [Builtin.append_, run_underlying ht, sizeOf, typeInfo, hi, Builtin.lenOf, Builtin.firstCells]
  · simp [Builtin.append_, run_underlying ht, sizeOf, typeInfo, hi, Builtin.lenOf, Builtin.firstCells, hnc, storeCells]
end
section
open Go.RowKit Go.Sort

theorem app_grown {w w' : World} {v : Value} {B : Nat} (h : w.grownBy w' v.ownBlock) (hv : ∀ k, v.ownBlock = some k → B ≤ k) (hB : B ≤ w.heap.size) : Below B w w' := (Below.refl B w).grown h hB hv

theorem ne_rcells {x : RL.R} (h : x ≠ []) : rcells x ≠ [] := fun h0 => by
  have := congrArg List.length h0
  rw [rcells_length] at this
  exact h (List.eq_nil_of_length_eq_zero (by simp only [List.length_nil] at this; omega))
end
section
open Go.RowKit Go.Sort

def HR (P : Nat → Prop) (B : Nat) (w : World) (u : Value) (y : RL.R) : Prop :=
  ∃ A' C', u = .slice A' y.length C' ∧ y.length ≤ C' ∧ C' ≤ 9223372036854775807 ∧ SlR B w A' y ∧ (y ≠ [] → ∀ ad, A' = some ad → P ad.block)
def Hdrs (P : Nat → Prop) (B : Nat) (w : World) (hs : List Value) (Y : List RL.R) : Prop :=
  hs.length = Y.length ∧ ∀ (i : Nat) u y, hs[i]? = some u → Y[i]? = some y → HR P B w u y

theorem SlR.keepP {P : Nat → Prop} {B : Nat} {w w' : World} {A : Option Addr} {y : RL.R} (h : SlR B w A y) (hP : y ≠ [] → ∀ ad, A = some ad → P ad.block) (hk : ∀ p : Addr, p.block < B → P p.block → w'.cell? p = w.cell? p) : SlR B w' A y := fun hn => by
  have hy : y ≠ [] := by intro e; subst e; exact hn rfl
  obtain ⟨b, o, e, hb, hc⟩ := h hn
  have hp := hP hy _ e
  exact ⟨b, o, e, hb, fun i u hu => (hk ⟨b, o + i, none⟩ hb hp).trans (hc i u hu)⟩
theorem SlR.lt_of {B : Nat} {w : World} {A : Option Addr} {y : RL.R} (h : SlR B w A y) : y ≠ [] → ∀ ad, A = some ad → ad.block < B := fun hy ad e => by
  obtain ⟨b, o, e', hb, _⟩ := h (ne_rcells hy)
  rw [e] at e'
  injection e' with e'
  rw [e']
  exact hb

section
variable {P P' : Nat → Prop} {B B' : Nat} {w w' : World} {hs ks : List Value} {Y Z : List RL.R} {u : Value} {y : RL.R}
theorem HR.keep (h : HR P B w u y) (hk : ∀ p : Addr, p.block < B → P p.block → w'.cell? p = w.cell? p) : HR P B w' u y := by
  obtain ⟨A', C', h1, h2, h3, h4, h5⟩ := h
  exact ⟨A', C', h1, h2, h3, h4.keepP h5 hk, h5⟩
theorem HR.more (h : HR P B w u y) (hB : B ≤ B') : HR P B' w u y := by
  obtain ⟨A', C', h1, h2, h3, h4, h5⟩ := h
  exact ⟨A', C', h1, h2, h3, h4.more hB, h5⟩
theorem HR.weak (h : HR P B w u y) (hP : ∀ b, b < B → P b → P' b) : HR P' B w u y := by
  obtain ⟨A', C', h1, h2, h3, h4, h5⟩ := h
  exact ⟨A', C', h1, h2, h3, h4, fun hy ad e => hP _ (h4.lt_of hy ad e) (h5 hy ad e)⟩
theorem HR.one (h : HR P B w u y) : u.oneCell' = true := by
  obtain ⟨A', C', rfl, _⟩ := h
  rfl
theorem Hdrs.nil : Hdrs P B w [] [] := ⟨rfl, fun i u y h => by simp at h⟩
theorem Hdrs.one (h : HR P B w u y) : Hdrs P B w [u] [y] := ⟨rfl, fun i u' y' h1 h2 => by
  cases i with
  | zero => simp at h1 h2; subst h1 h2; exact h
  | succ i => simp at h1⟩
theorem Hdrs.append (h : Hdrs P B w hs Y) (k : Hdrs P B w ks Z) : Hdrs P B w (hs ++ ks) (Y ++ Z) := by
  refine ⟨by simp [h.1, k.1], fun i u y h1 h2 => ?_⟩
  have hl := h.1
  by_cases hi : i < hs.length
  · rw [List.getElem?_append_left hi] at h1
    rw [List.getElem?_append_left (by omega)] at h2
    exact h.2 i u y h1 h2
  · rw [List.getElem?_append_right (by omega)] at h1
    rw [List.getElem?_append_right (by omega), ← hl] at h2
    exact k.2 _ u y h1 h2
theorem Hdrs.take (h : Hdrs P B w hs Y) (n : Nat) : Hdrs P B w (hs.take n) (Y.take n) := by
  refine ⟨by simp [h.1], fun i u y h1 h2 => ?_⟩
  rw [List.getElem?_take] at h1 h2
  split at h1
  · rename_i hi
    rw [if_pos hi] at h2
    exact h.2 i u y h1 h2
  · cases h1
theorem Hdrs.drop (h : Hdrs P B w hs Y) (n : Nat) : Hdrs P B w (hs.drop n) (Y.drop n) := by
  refine ⟨by simp [h.1], fun i u y h1 h2 => ?_⟩
  rw [List.getElem?_drop] at h1 h2
  exact h.2 _ u y h1 h2
theorem Hdrs.keep (h : Hdrs P B w hs Y) (hk : ∀ p : Addr, p.block < B → P p.block → w'.cell? p = w.cell? p) : Hdrs P B w' hs Y := ⟨h.1, fun i u y h1 h2 => (h.2 i u y h1 h2).keep hk⟩
theorem Hdrs.more (h : Hdrs P B w hs Y) (hB : B ≤ B') : Hdrs P B' w hs Y := ⟨h.1, fun i u y h1 h2 => (h.2 i u y h1 h2).more hB⟩
theorem Hdrs.weak (h : Hdrs P B w hs Y) (hP : ∀ b, b < B → P b → P' b) : Hdrs P' B w hs Y := ⟨h.1, fun i u y h1 h2 => (h.2 i u y h1 h2).weak hP⟩
theorem Hdrs.cells (h : Hdrs P B w hs Y) : ∀ u ∈ hs, u.oneCell' = true := fun u hu => by
  obtain ⟨i, hi, rfl⟩ := List.getElem_of_mem hu
  exact (h.2 i _ (Y[i]'(by rw [← h.1]; exact hi)) (List.getElem?_eq_getElem hi) (List.getElem?_eq_getElem _)).one
theorem Hdrs.at_ (h : Hdrs P B w hs Y) {i : Nat} (hi : i < Y.length) : ∃ A' C', hs[i]? = some (.slice A' Y[i].length C') ∧ Y[i].length ≤ C' ∧ C' ≤ 9223372036854775807 ∧ SlR B w A' Y[i] ∧ (Y[i] ≠ [] → ∀ ad, A' = some ad → P ad.block) := by
  have hi' : i < hs.length := by rw [h.1]; exact hi
  obtain ⟨A', C', h1, h2⟩ := h.2 i _ _ (List.getElem?_eq_getElem hi') (List.getElem?_eq_getElem hi)
  exact ⟨A', C', by rw [List.getElem?_eq_getElem hi', h1], h2⟩
end

def SlRsP (P : Nat → Prop) (B : Nat) (w : World) (A : Option Addr) (X : List RL.R) : Prop :=
  X ≠ [] → ∃ b o, A = some ⟨b, o, none⟩ ∧ b < B ∧ P b ∧ ∃ hs, Hdrs P B w hs X ∧ ∀ i u, hs[i]? = some u → w.cell? ⟨b, o + i, none⟩ = some u

section
variable {P P' : Nat → Prop} {B B' : Nat} {w w' : World} {A : Option Addr} {X : List RL.R}
theorem SlRsP.nil : SlRsP P B w A [] := fun h => absurd rfl h
theorem SlRs.toP (h : SlRs B w A X) : SlRsP (fun b => b < B) B w A X := fun hn => by
  obtain ⟨hs, h1, h2, h3, h4, h5⟩ := h.hdrs
  obtain ⟨b, o, rfl, hb, hc⟩ := h hn
  refine ⟨b, o, rfl, hb, hb, hs, ⟨h1, fun i u y hu hy => ?_⟩, fun i u hu => by have := h3 _ rfl i u hu; rwa [Addr.add_lit] at this⟩
  obtain ⟨hi, rfl⟩ := List.getElem?_eq_some_iff.1 hy
  obtain ⟨A', C', g1, g2, g3, g4⟩ := h5 i hi
  rw [hu] at g1
  injection g1 with g1
  exact ⟨A', C', g1, g2, g3, g4, g4.lt_of⟩
theorem SlRsP.sl (h : SlRsP P B w A X) : SlRs B w A X := fun hn => by
  obtain ⟨b, o, e, hb, _, hs, hH, hc⟩ := h hn
  refine ⟨b, o, e, hb, fun i hi => ?_⟩
  obtain ⟨A', C', g1, g2, g3, g4, _⟩ := hH.at_ hi
  exact ⟨A', C', hc i _ g1, g2, g3, g4⟩
theorem SlRsP.keep (h : SlRsP P B w A X) (hk : ∀ p : Addr, p.block < B → P p.block → w'.cell? p = w.cell? p) : SlRsP P B w' A X := fun hn => by
  obtain ⟨b, o, e, hb, hp, hs, hH, hc⟩ := h hn
  exact ⟨b, o, e, hb, hp, hs, hH.keep hk, fun i u hu => (hk ⟨b, o + i, none⟩ hb hp).trans (hc i u hu)⟩
theorem SlRsP.more (h : SlRsP P B w A X) (hB : B ≤ B') : SlRsP P B' w A X := fun hn => by
  obtain ⟨b, o, e, hb, hp, hs, hH, hc⟩ := h hn
  exact ⟨b, o, e, by omega, hp, hs, hH.more hB, hc⟩
theorem SlRsP.weak (h : SlRsP P B w A X) (hP : ∀ b, b < B → P b → P' b) : SlRsP P' B w A X := fun hn => by
  obtain ⟨b, o, e, hb, hp, hs, hH, hc⟩ := h hn
  exact ⟨b, o, e, hb, hP b hb hp, hs, hH.weak hP, hc⟩
end

theorem own_slrs {P : Nat → Prop} {w : World} {base B : Nat} {E : TypeId} {v : Value} {hs : List Value} {Y : List RL.R} (h : w.ownsRow base E 1 v Y.length hs) (hd : Hdrs P B w hs Y) (hB : B ≤ w.heap.size) (hP : ∀ b, base ≤ b → P b) :
    ∃ A C, v = .slice A Y.length C ∧ Y.length ≤ C ∧ C ≤ 9223372036854775807 ∧ SlRsP P w.heap.size w A Y := by
  have hl := hd.1
  obtain ⟨A, c, e1, hc, e3, hsl⟩ := Sl.of_own h
  rw [hl] at e1 hc
  refine ⟨A, c, e1, hc, ?_, fun hn => ?_⟩
  · rcases h.2 with ⟨g1, g0⟩ | ⟨g, cap, cur, g1, _, _, _, hm, _⟩
    · rw [g1] at e1; injection e1 with _ _ e3; omega
    · rw [g1] at e1; injection e1 with _ _ e3; unfold maxLen at hm; omega
  · obtain ⟨b, o, e, hb, hcell⟩ := hsl (by intro h0; rw [h0] at hl; exact hn (List.eq_nil_of_length_eq_zero hl.symm))
    refine ⟨b, o, e, hb, hP b (own_base h (k := b) (by rw [e1, e]; rfl)), hs, hd.more hB, hcell⟩

theorem own_grown {w w' : World} {base : Nat} {e : TypeId} {size : Nat} {v : Value} {n : Nat} {xs : List Value} {row : Option Nat} (h : w.ownsRow base e size v n xs) (hg : w.grownBy w' row) (hne : ∀ k, v.ownBlock = some k → some k ≠ row) : w'.ownsRow base e size v n xs := by
  have hlt := own_lt h
  refine ⟨h.1, ?_⟩
  rcases h.2 with h1 | ⟨g, cap, cur, h1, h2, h3, h4⟩
  · exact .inl h1
  · refine .inr ⟨g, cap, cur, h1, h2, ?_, h4⟩
    have ho : v.ownBlock = some g := by rw [h1]; rfl
    rw [hg.block g (hlt g ho) (hne g ho)]
    exact h3

theorem grown_of_below {w w' : World} (h : Below w.heap.size w w') (row : Option Nat) : w.grownBy w' row := ⟨h.os, h.tape, h.output, h.size, fun b hb' _ => h.block b hb'⟩
theorem appH {w : World} {ops : Array Oper} {rest : List Oper} {o : Oper} {a : Act} {Q : Exit → Act → World → Prop} (hgd : o.guard = none) (s x : Operand)
    (ho : o.op = .call { callee := .builtin .append, args := #[s, x], argTypes := #[38, 38] })
    (base : Nat) (v : Value) (n : Nat) (hs : List Value) (hs0 : a.eval s = v) (hown : w.ownsRow base 42 1 v n hs)
    (A : Option Addr) (m C : Nat) (ns : List Value) (hm : ns.length = m) (hx : a.eval x = .slice A m C) (hcell : ∀ ad, A = some ad → ∀ j u, ns[j]? = some u → w.cell? (ad.add j) = some u) (hnone : A = none → ns = []) (ho1 : ∀ u ∈ ns, u.oneCell' = true)
    (hn : (n + m) * 24 ≤ 140737488355328) (hbase : base ≤ w.heap.size)
    (h : ∀ v' w', w'.ownsRow base 42 1 v' (n + m) (hs ++ ns) → w.grownBy w' v.ownBlock → (v'.ownBlock = v.ownBlock ∨ v'.ownBlock = some w.heap.size) → wpList Tryz.prog ops Q rest (a.put o.dst v') w') : wpList Tryz.prog ops Q (o :: rest) a w := by
  subst hm
  obtain ⟨i0, hi0, hz0, hz1, hz2⟩ := info_parts rowInfo
  refine wpList_plain hgd fun K hK => ?_
  rcases A with _ | ad
  · have hy := hnone rfl
    subst hy
    have hrun := run_append_none (P := Tryz.prog) w base 38 o.type 42 i0 1 Tryz.underlying38 hi0 v n hs hown C
    unfold Oper.wp execOp
    simp only [List.length_nil] at hx
    simp only [ho, resolve, invoke, builtin, Sem.run_bind, Sem.run_pure, Result.andThen_ok, List.map_toArray, List.map_cons, List.map_nil, hs0, hx, hrun]
    exact hK _ _ (h v w (by rw [List.append_nil]; exact hown) ⟨rfl, rfl, rfl, Nat.le_refl _, fun _ _ _ => rfl⟩ (.inl rfl))
  · obtain ⟨v', w', hrun, k2, k3, _, k5⟩ := run_append_own_at (P := Tryz.prog) w base 38 o.type 42 i0 _ 1 24 Tryz.underlying38 hi0 hz0 hz1 hz2 rfl (by decide) v n hs hown ad ns.length C ns (by omega) (hcell ad rfl) ho1 (by simp only [maxLen]; omega) (by omega) hbase
    unfold Oper.wp execOp
    simp only [ho, resolve, invoke, builtin, Sem.run_bind, Sem.run_pure, Result.andThen_ok, List.map_toArray, List.map_cons, List.map_nil, hs0, hx, hrun]
    exact hK _ _ (h v' w' k2 k3 k5)
theorem appH1 {w : World} {ops : Array Oper} {rest : List Oper} {o : Oper} {a : Act} {Q : Exit → Act → World → Prop} (hgd : o.guard = none) (s x : Operand)
    (ho : o.op = .call { callee := .builtin .append, args := #[s, x], argTypes := #[38, 38] })
    (base : Nat) (v : Value) (n : Nat) (hs : List Value) (hs0 : a.eval s = v) (hown : w.ownsRow base 42 1 v n hs)
    (gt : Nat) (u : Value) (hx : a.eval x = .slice (some ⟨gt, 0, none⟩) 1 1) (hg : w.cell? ⟨gt, 0, none⟩ = some u) (ho1 : u.oneCell' = true)
    (hn : (n + 1) * 24 ≤ 140737488355328) (hbase : base ≤ w.heap.size)
    (h : ∀ v' w', w'.ownsRow base 42 1 v' (n + 1) (hs ++ [u]) → w.grownBy w' v.ownBlock → (v'.ownBlock = v.ownBlock ∨ v'.ownBlock = some w.heap.size) → wpList Tryz.prog ops Q rest (a.put o.dst v') w') : wpList Tryz.prog ops Q (o :: rest) a w :=
  appH hgd s x ho base v n hs hs0 hown (some ⟨gt, 0, none⟩) 1 1 [u] rfl hx (fun ad e j u' hu => by
    injection e with e
    subst e
    rw [Addr.add_lit]
    cases j with
    | zero => simp at hu; subst hu; exact hg
    | succ j => simp at hu) (fun e => by cases e) (by simpa using ho1) hn hbase h
end
section
open Go.RowKit Go.Sort

def RelP (P : Nat → Prop) (w' : World) (n : Int) (X : List RL.R) (v : Value) : Prop := ∃ A C, v = .agg #[.int .i64 n, .slice A X.length C] ∧ X.length ≤ C ∧ C ≤ 9223372036854775807 ∧ SlRsP P w'.heap.size w' A X
end
section
open Go.RowKit Go.Sort

theorem Row.up {W W' : World} {g : Nat} {e : TypeId} {xs : List Value} (h : Row W g e xs) (hb : Below W.heap.size W W') : Row W' g e xs := h.below hb h.lt
theorem Row.set2 {w : World} {g : Nat} {e : TypeId} {a0 b0 : Value} (h : Row w g e [a0, b0]) (a b : Value) : Row ((w.setCell ⟨g, 0, none⟩ a).setCell ⟨g, 1, none⟩ b) g e [a, b] := (h.set 0 a).set 1 b
theorem SlRsP.below {P : Nat → Prop} {B C : Nat} {w w' : World} {A : Option Addr} {X : List RL.R} (h : SlRsP P B w A X) (hb : Below C w w') (hC : B ≤ C) : SlRsP P B w' A X := h.keep (fun p hp _ => hb.cell (by omega))
end
section
open Go.RowKit Go.Sort Go.ChangeMaps Go.WideShapes

def heldR (v : Value) : Option (DataW Value × List MemPlace) := some (.held v, [])
def litS (s : ByteArray) : Lit := .string s.data.toList
theorem keyedS : Maps.Keyed Tryz.prog 9 := Maps.string_keyed Tryz.underlying9
theorem keyS {s : ByteArray} (h : s.size ≤ maxLen) : keyOf Tryz.prog 9 (.string s) = some (litS s) := Go.WideMaps.keyOf_string_mk Tryz.underlying9 h
theorem litS_inj {s t : ByteArray} (h : litS s = litS t) : s = t := by
  unfold litS at h
  injection h with h
  cases s; cases t
  simp at h
  rw [h]
theorem isKeyS (s : ByteArray) : WideAt.IsKeyLit (litS s) := ⟨⟩
section
variable {k t e : TypeId} {w w' : World} {b n : Nat} {D : DataW Value} {key z : Value} {kl : Lit}
theorem map_up (h : w.ownsMap Tryz.prog k heldR b n D) (hb : Below w.heap.size w w') : w'.ownsMap Tryz.prog k heldR b n D := by
  have hl := h.lt
  obtain ⟨es, clock, h1, h2⟩ := h
  exact ⟨es, clock, (hb.block b hl).trans h1, h2⟩
theorem map_tight (h : w.ownsMap Tryz.prog k heldR b n D) : w.ownsMap Tryz.prog k heldR b (Maps.size D) D := by
  obtain ⟨es, clock, h1, h2, h3, h4⟩ := h
  refine ⟨es, clock, h1, h2, ?_, h4⟩
  rw [h4]
  simp [Maps.size, length_sorted]
theorem look_yes (K : Maps.Keyed Tryz.prog k) (ht : Tryz.prog.underlying t = some (.map k e)) (hz : ∀ u, (zeroValue e).run Tryz.prog u = .ok z u) (h : w.ownsMap Tryz.prog k heldR b n D) (hkey : keyOf Tryz.prog k key = some kl) {val : Value} (hv : ∀ zd, D.atKey kl zd = .held val) :
    (Instr.lookup t (.map (some b)) key true).run Tryz.prog w = .ok (.tuple #[val, .bool true]) w ∧ (Instr.lookup t (.map (some b)) key false).run Tryz.prog w = .ok val w := by
  obtain ⟨v, ps, h1, h2⟩ := h.look_ok K ht (hz w) (zd := .held z) (zp := []) rfl hkey
  obtain ⟨v', ps', h3, h4⟩ := h.lookup K ht (hz w) (zd := .held z) (zp := []) rfl hkey
  unfold heldR at h2 h4
  rw [hv] at h2 h4
  injection h2 with h2
  injection h4 with h4
  injection h2 with h2
  injection h4 with h4
  injection h2 with h2
  injection h4 with h4
  subst h2 h4
  rw [Maps.has_true_of_atKey hv] at h1
  exact ⟨h1, h3⟩
theorem look_no (K : Maps.Keyed Tryz.prog k) (ht : Tryz.prog.underlying t = some (.map k e)) (hz : ∀ u, (zeroValue e).run Tryz.prog u = .ok z u) (h : w.ownsMap Tryz.prog k heldR b n D) (hkey : keyOf Tryz.prog k key = some kl) (hn : Maps.has D kl = false) :
    (Instr.lookup t (.map (some b)) key true).run Tryz.prog w = .ok (.tuple #[z, .bool false]) w ∧ (Instr.lookup t (.map (some b)) key false).run Tryz.prog w = .ok z w := by
  obtain ⟨v, ps, h1, h2⟩ := h.look_ok K ht (hz w) (zd := .held z) (zp := []) rfl hkey
  obtain ⟨v', ps', h3, h4⟩ := h.lookup K ht (hz w) (zd := .held z) (zp := []) rfl hkey
  unfold heldR at h2 h4
  rw [Maps.atKey_of_not_has hn] at h2 h4
  injection h2 with h2
  injection h4 with h4
  injection h2 with h2
  injection h4 with h4
  injection h2 with h2
  injection h4 with h4
  subst h2 h4
  rw [hn] at h1
  exact ⟨h1, h3⟩
end
end
section
open Go.RowKit Go.Sort Go.ChangeMaps Go.WideShapes

theorem ctClone_some (b : Nat) (n : Nat) (D : DataW Value) (w : World) (h : w.ownsMap Tryz.prog 9 heldR b n D) :
    Calls Tryz.prog 49 #[.map (some b)] w fun e w' => e = .returned (.map (some w.heap.size)) ∧ w'.ownsMap Tryz.prog 9 heldR w.heap.size n D ∧ Ext w w' := by
  have hlt := h.lt
  obtain ⟨es, clock, hb, hF, hs, hD⟩ := h
  have hq := fun w => run_eql_map_nil_sl (P := Tryz.prog) w 26 9 99 (some b) Tryz.underlying26
  have HG : Hid ((w.alloc (.map es clock)).ownsMap Tryz.prog 9 heldR w.heap.size n D) := ⟨es, clock, (MapKept.heap_alloc w _).1, hF, hs, hD⟩
  clear hF hs hD
  go_enter Tryz.func49, Tryz.ntmps49
  go_wp2
  rw [run_callFunc_extern Tryz.func79 (by kernel_rfl) (by kernel_rfl) (by kernel_rfl) (e := Extern.MapsClone.clone) (by kernel_rfl), run_maps_clone_sl w 26 hb]
  simp only [Result.andThen]
  rw [Oper.upon_value]
  go_wp2
  rw [run_typeAssert_map_sl _ 26 _ _ _ _ Tryz.underlying26]
  simp only [Result.andThen]
  rw [Oper.upon_value]
  go_wp2
  go_ret
  exact ⟨rfl, HG.out, (Ext.refl w).alloc _⟩
end
section
open Go.RowKit Go.Sort

def tailA (A : Option Addr) (k cap : Nat) : Option Addr := if cap = k then A else A.map (·.add k)
theorem elemRows : Tryz.prog.elem 38 = 42 := by kernel_rfl
theorem underRows : Tryz.prog.underlying 38 = some (.slice (Tryz.prog.elem 38)) := by kernel_rfl
theorem slTail (A : Option Addr) (len cap k : Nat) (h : k ≤ len) (W : World) : (Instr.slice 38 (.slice A len cap) (some (.int .i64 (k : Int))) none none).run Tryz.prog W = .ok (.slice (tailA A k cap) (len - k) (cap - k)) W := by
  rw [run_slice_l W 38 A len cap underRows .i64 k (by omega) (by omega), elemRows, Tryz.sizeOf42]
  simp [tailA, sliced, Result.andThen]
theorem slHead (A : Option Addr) (len cap k : Nat) (h : k ≤ cap) (W : World) : (Instr.slice 38 (.slice A len cap) none (some (.int .i64 (k : Int))) none).run Tryz.prog W = .ok (.slice A k cap) W := by
  rw [run_slice_h W 38 A len cap underRows .i64 k (by omega) (by omega), elemRows, Tryz.sizeOf42]
  cases A <;> simp [sliced, Addr.add, Result.andThen]

theorem SlRsP.head {P : Nat → Prop} {B : Nat} {w : World} {A : Option Addr} {X : List RL.R} (h : SlRsP P B w A X) (k : Nat) : SlRsP P B w A (X.take k) := fun hn => by
  obtain ⟨b, o, e, hb, hp, hs, hH, hc⟩ := h (by intro h0; apply hn; rw [h0]; simp)
  refine ⟨b, o, e, hb, hp, hs.take k, hH.take k, fun i u hu => ?_⟩
  rw [List.getElem?_take] at hu
  split at hu
  · exact hc i u hu
  · cases hu
theorem SlRsP.tail {P : Nat → Prop} {B : Nat} {w : World} {A : Option Addr} {X : List RL.R} {cap : Nat} (h : SlRsP P B w A X) (hc : X.length ≤ cap) (k : Nat) : SlRsP P B w (tailA A k cap) (X.drop k) := fun hn => by
  have hk : k < X.length := by
    rcases Nat.lt_or_ge k X.length with h1 | h1
    · exact h1
    · exact absurd (List.drop_of_length_le h1) hn
  obtain ⟨b, o, rfl, hb, hp, hs, hH, hcell⟩ := h (by intro h0; apply hn; rw [h0]; simp)
  refine ⟨b, o + k, ?_, hb, hp, hs.drop k, hH.drop k, fun i u hu => ?_⟩
  · unfold tailA
    rw [if_neg (by omega)]
    simp only [Option.map_some, Addr.add_lit]
  · rw [List.getElem?_drop] at hu
    rw [Nat.add_assoc]
    exact hcell _ u hu

theorem SlRsP.hdrs2 {P : Nat → Prop} {B : Nat} {w : World} {A : Option Addr} {X : List RL.R} (h : SlRsP P B w A X) : ∃ hs, Hdrs P B w hs X ∧ (∀ W : World, (∀ p : Addr, p.block < B → P p.block → W.cell? p = w.cell? p) → ∀ ad, A = some ad → ∀ j u, hs[j]? = some u → W.cell? (ad.add j) = some u) ∧ (A = none → hs = []) := by
  by_cases hn : X = []
  · subst hn
    exact ⟨[], Hdrs.nil, fun _ _ _ _ j u hu => by simp at hu, fun _ => rfl⟩
  obtain ⟨b, o, rfl, hb, hp, hs, hH, hc⟩ := h hn
  exact ⟨hs, hH, fun W hW ad e j u hu => by injection e with e; subst e; rw [Addr.add_lit]; exact (hW ⟨b, o + j, none⟩ hb hp).trans (hc j u hu), fun e => by cases e⟩

theorem makeRows0 (n : Nat) (hn : n ≤ 1000000) (w : World) : (Instr.makeSlice 38 (.int .i64 0) (.int .i64 ((n : Int) + 1))).run Tryz.prog w = .ok (.slice (some ⟨w.heap.size, 0, none⟩) 0 (n + 1)) (w.alloc (.cells (zerosA (.slice none 0 0) (n + 1)) 42)) := by
  obtain ⟨i0, hi0, hz0, hz1, hz2⟩ := info_parts rowInfo
  have := run_make (P := Tryz.prog) w 38 42 i0 _ Tryz.underlying38 hi0 hz0 .i64 .i64 0 ((n : Int) + 1) (by omega) (by omega) (by rw [hz2]; omega) (by omega)
  rw [this, hz1]
  rw [show ((n : Int) + 1).toNat = n + 1 by omega]
  rw [zeros_made _ _ rfl]
  rfl
theorem own_made (w : World) (n base : Nat) (hn : n ≤ 1000000) (hb : base ≤ w.heap.size) : (w.alloc (.cells (zerosA (.slice none 0 0) n) 42)).ownsRow base 42 1 (.slice (some ⟨w.heap.size, 0, none⟩) 0 n) 0 [] :=
  ⟨by simp, .inr ⟨w.heap.size, n, _, rfl, hb, heap_alloc_new w _, Nat.zero_le _, by simp only [maxLen]; omega, by simp [zerosA], by simp⟩⟩

def InsPost (P : Nat → Prop) (w : World) (n : Int) (X : List RL.R) (x : RL.R) (e : Ending) (w' : World) : Prop :=
  (wrongF n x ≠ 0 → e = .returned (.tuple #[.agg #[.int .i64 0, .slice none 0 0], .bool false, .int .i64 (wrongF n x)])) ∧ (wrongF n x = 0 → ∃ v, e = .returned (.tuple #[v, .bool (!decide (x ∈ X)), .int .i64 0]) ∧ RelP P w' n (RL.insF X x) v) ∧ Below w.heap.size w w'

set_option maxHeartbeats 2000000 in
theorem rlInsert_any (P : Nat → Prop) (n : Int) (RA A : Option Addr) (RC C : Nat) (X : List RL.R) (x : RL.R) (w : World) (hX : SlRsP P w.heap.size w RA X) (hPn : ∀ b, w.heap.size ≤ b → P b) (hx : SlR w.heap.size w A x) (hXo : RsOk X) (hxo : ROk x) (hXl : X.length ≤ 60000) (hS : RL.SS X) (hXc : X.length ≤ RC) (hXm : RC ≤ 9223372036854775807) :
    Calls Tryz.prog 81 #[.agg #[.int .i64 n, .slice RA X.length RC], .slice A x.length C] w (InsPost P w n X x) := by
  have HX := Lib.hid hX
  have HPN := Lib.hid hPn
  have HXX := Lib.hid hx
  have HXO := Lib.hid hXo
  have HXO2 := Lib.hid hxo
  have HSS := Lib.hid hS
  have HMK := Lib.hid (makeRows0 X.length (by omega))
  clear hX hPn hx hXo hxo hS
  go_enter Tryz.func81, Tryz.ntmps81
  have q1 := (Row.new w 56 [.int .i64 n, .slice RA X.length RC]).alloc (.cells #[.int .i64 0, .slice none 0 0] 56)
  have q2 := Row.new (w.alloc (.cells #[.int .i64 n, .slice RA X.length RC] 56)) 56 [.int .i64 0, .slice none 0 0]
  simp only [World.size_alloc] at q2
  have HQ1 := Lib.hid q1
  have HQ2 := Lib.hid q2
  have HE0 := Lib.hid (((Ext.refl w).alloc (.cells #[.int .i64 n, .slice RA X.length RC] 56)).alloc (.cells #[.int .i64 0, .slice none 0 0] 56))
  clear q1 q2
  go_wp2_with fail
  generalize (w.alloc (.cells #[.int .i64 n, .slice RA X.length RC] 56)).alloc (.cells #[.int .i64 0, .slice none 0 0] 56) = W0 at *
  refine (rlAccepts_any n RA A X.length RC C x W0 (HXX.out.up HE0.out) HXO2.out).mono ?_
  rintro e w1 ⟨rfl, hx1⟩
  have HE1 := Lib.hid (HE0.out.trans hx1)
  have HR1 := Lib.hid (HQ1.out.below hx1.below HQ1.out.lt)
  have HR2 := Lib.hid (HQ2.out.below hx1.below HQ2.out.lt)
  have hz1 : w.heap.size + 1 < w1.heap.size := HR2.out.lt
  clear hx1 HE0 HQ1 HQ2
  by_cases hw : wrongF n x = 0
  rotate_left
  · have hw2 : (wrongF n x != 0) = true := by simpa using hw
    have HW := Lib.hid hw
    have c0 : w1.cell? ⟨w.heap.size + 1, 0, none⟩ = some (.int .i64 0) := HR2.out.cell 0
    have c1 : w1.cell? ⟨w.heap.size + 1, 1, none⟩ = some (.slice none 0 0) := HR2.out.cell 1
    have f0 := HR2.out.frozen 0
    have f1 := HR2.out.frozen 1
    clear hw
    obtain ⟨q, hqe⟩ : ∃ q, q = wrongF n x := ⟨_, rfl⟩
    rw [← hqe] at hw2
    rw [← hqe]
    have HQE := Lib.hid hqe
    clear hqe
    go_wp2
    refine bodyPost_ret (v := .tuple #[.agg #[.int .i64 0, .slice none 0 0], .bool false, .int .i64 q]) (by simp [results, Tryz.results81, go_sem, c0, c1]) rfl ⟨fun _ => by rw [← HQE.out], fun h => absurd h HW.out, ?_⟩
    exact (HE1.out.below.setCell (p := ⟨w.heap.size + 1, 0, none⟩) (show w.heap.size ≤ w.heap.size + 1 by omega) _).setCell (p := ⟨w.heap.size + 1, 1, none⟩) (show w.heap.size ≤ w.heap.size + 1 by omega) _
  have HW := Lib.hid hw
  rw [hw]
  clear hw
  have n0 : w1.cell? ⟨w.heap.size, 0, none⟩ = some (.int .i64 n) := HR1.out.cell 0
  have n1 : w1.cell? ⟨w.heap.size, 1, none⟩ = some (.slice RA X.length RC) := HR1.out.cell 1
  go_wp2_with fail
  refine (rlSearch_any n RA A RC C X x w1 (HX.out.sl.up HE1.out) (HXX.out.up HE1.out) (by omega) HXO.out HXO2.out.1 HSS.out).mono ?_
  rintro e w2 ⟨rfl, hx2⟩
  have HE2 := Lib.hid (HE1.out.trans hx2)
  have HR12 := Lib.hid (HR1.out.below hx2.below HR1.out.lt)
  have HR22 := Lib.hid (HR2.out.below hx2.below HR2.out.lt)
  have hz2 : w.heap.size + 1 < w2.heap.size := HR22.out.lt
  clear hx2 n0 n1 HR1 HR2 HE1
  have n0 : w2.cell? ⟨w.heap.size, 0, none⟩ = some (.int .i64 n) := HR12.out.cell 0
  have n1 : w2.cell? ⟨w.heap.size, 1, none⟩ = some (.slice RA X.length RC) := HR12.out.cell 1
  have c0 : w2.cell? ⟨w.heap.size + 1, 0, none⟩ = some (.int .i64 0) := HR22.out.cell 0
  have c1 : w2.cell? ⟨w.heap.size + 1, 1, none⟩ = some (.slice none 0 0) := HR22.out.cell 1
  have f0 := HR22.out.frozen 0
  have f1 := HR22.out.frozen 1
  by_cases hm : x ∈ X
  · have HI : Hid (RL.insF X x = X) := by show _ = _; unfold RL.insF; rw [if_pos hm]
    have hd : decide (x ∈ X) = true := by simpa using hm
    have HD := Lib.hid hd
    rw [hd]
    clear hm hd
    generalize RL.rank X x = k at *
    have z0 : (w2.setCell ⟨w.heap.size + 1, 0, none⟩ (.int .i64 n)).cell? ⟨w.heap.size + 1, 0, none⟩ = some (.int .i64 n) := World.cell?_setCell_same _ _ _ c0
    have z1 : ((w2.setCell ⟨w.heap.size + 1, 0, none⟩ (.int .i64 n)).setCell ⟨w.heap.size + 1, 1, none⟩ (.slice RA X.length RC)).cell? ⟨w.heap.size + 1, 1, none⟩ = some (.slice RA X.length RC) := World.cell?_setCell_same _ _ _ ((World.cell?_setCell_other _ _ _ _ (by simp)).trans c1)
    have Z0 := Lib.hid z0
    have Z1 := Lib.hid z1
    have HB := Lib.hid ((HE2.out.below.setCell (p := ⟨w.heap.size + 1, 0, none⟩) (show w.heap.size ≤ w.heap.size + 1 by omega) (.int .i64 n)).setCell (p := ⟨w.heap.size + 1, 1, none⟩) (show w.heap.size ≤ w.heap.size + 1 by omega) (.slice RA X.length RC))
    clear z0 z1
    go_wp2
    refine bodyPost_ret (v := .tuple #[.agg #[.int .i64 n, .slice RA X.length RC], .bool false, .int .i64 0]) (by simp [results, Tryz.results81, go_sem, Z0.out, Z1.out]) rfl ⟨fun h => absurd HW.out h, fun _ => ⟨_, by rw [HD.out]; rfl, ?_⟩, HB.out⟩
    rw [HI.out]
    refine ⟨RA, RC, rfl, hXc, hXm, ?_⟩
    exact (HX.out.keep (fun p hp _ => HB.out.cell hp)).more HB.out.size
  · have HI : Hid (RL.insF X x = X.take (RL.rank X x) ++ [x] ++ X.drop (RL.rank X x)) := by show _ = _; unfold RL.insF; rw [if_neg hm]; simp
    have hd : decide (x ∈ X) = false := by simpa using hm
    have HD := Lib.hid hd
    rw [hd]
    have hrk := RL.rank_le X x
    clear hm hd
    generalize RL.rank X x = k at *
    have hXl2 : decide ((65536 : Int) ≤ (X.length : Int)) = false := by simp; omega
    have hmk := HMK.out
    have hst := slTail RA X.length RC k hrk
    have hsh := slHead RA X.length RC k (by omega)
    obtain ⟨TA, hTA⟩ : ∃ TA, TA = tailA RA k RC := ⟨_, rfl⟩
    rw [← hTA] at hst
    have HX2 := Lib.hid ((HX.out.keep (w' := w2) (fun p hp _ => HE2.out.below.cell hp)))
    have HTAIL : Hid (SlRsP P w.heap.size w2 TA (X.drop k)) := by rw [hTA]; exact HX2.out.tail hXc k
    have HHEAD := Lib.hid (HX2.out.head k)
    have htl : (X.take k).length = k := by simp; omega
    have hdl : (X.drop k).length = X.length - k := by simp
    clear hTA
    obtain ⟨h1s, hH1, hc1, hnn1⟩ := HHEAD.out.hdrs2
    obtain ⟨h2s, hH2, hc2, hnn2⟩ := HTAIL.out.hdrs2
    have e1l := hH1.1
    have e2l := hH2.1
    rw [htl] at e1l
    rw [hdl] at e2l
    have HH1 := Lib.hid (hH1.weak (P' := fun b => P b ∧ b ≠ w.heap.size + 1) (fun b hb h => ⟨h, by omega⟩))
    have HH2 := Lib.hid (hH2.weak (P' := fun b => P b ∧ b ≠ w.heap.size + 1) (fun b hb h => ⟨h, by omega⟩))
    have HC1 := Lib.hid hc1
    have HC2 := Lib.hid hc2
    have HN1 := Lib.hid hnn1
    have HN2 := Lib.hid hnn2
    have HL1 := Lib.hid e1l
    have HL2 := Lib.hid e2l
    clear hH1 hH2 hc1 hc2 hnn1 hnn2 e1l e2l htl hdl HX2 HTAIL HHEAD
    have HO0 := Lib.hid (own_made w2 (X.length + 1) (w.heap.size + 2) (by omega) (by omega))
    have HB0 := Lib.hid ((Below.refl (w.heap.size + 2) w2).alloc (show w.heap.size + 2 ≤ w2.heap.size by omega) (.cells (zerosA (.slice none 0 0) (X.length + 1)) 42))
    have hz2' : w.heap.size < w2.heap.size := by omega
    go_wp2_with (at_builtin; refine appH rfl (.tmp 36) (.tmp 40) rfl (w.heap.size + 2) (.slice (some ⟨w2.heap.size, 0, none⟩) 0 (X.length + 1)) 0 [] rfl HO0.out RA k RC h1s HL1.out rfl (HC1.out _ (fun p hp _ => HB0.out.cell (by omega))) HN1.out HH1.out.cells (by omega) (by simp; omega) ?_
                 intro v3 w3 hown3 hg3 _
                 have HO3 := Lib.hid hown3
                 have HB3 := Lib.hid (Below.then HB0.out (app_grown (B := w.heap.size + 2) hg3 (fun g hk => own_base HO0.out hk) (by simp; omega)) (Nat.le_refl _))
                 clear hown3 hg3)
    have hz3 := HB3.out.size
    refine (cloneRow_any A C x w3 ((HXX.out.below (Below.then HE2.out.below HB3.out (by omega)) (Nat.le_refl _)).more (by omega)) HXO2.out.1).mono ?_
    rintro e w4 ⟨v4, rfl, hown4, hb4⟩
    obtain ⟨-, A4, C4, rfl, hc4, hm4, hs4, hfr4⟩ := SlR.of_own hown4
    have hb4' := Below.then HB3.out hb4 (by omega)
    have HB4 := Lib.hid (hb4'.alloc (show w.heap.size + 2 ≤ w4.heap.size by have := hb4.size; omega) (.cells #[.slice A4 x.length C4] 42))
    have HO4 := Lib.hid ((own_keep HO3.out hb4).alloc (.cells #[.slice A4 x.length C4] 42))
    have hz4 := hb4.size
    have HS4 := Lib.hid (hs4.alloc1 (.cells #[.slice A4 x.length C4] 42))
    have HFR4 := Lib.hid hfr4
    have HLT4 := Lib.hid hs4.lt_of
    have HOL := Lib.hid (own_lt HO3.out)
    have m1 : w4.cell? ⟨w.heap.size, 1, none⟩ = some (.slice RA X.length RC) := (hb4'.cell (p := ⟨w.heap.size, 1, none⟩) (show w.heap.size < w.heap.size + 2 by omega)).trans n1
    clear hown4 hb4 hs4 hfr4 n0 n1 c0 c1 f0 f1 hb4'
    have hz4' : w.heap.size < w4.heap.size := by omega
    go_wp2_with (first
      | (at_builtin; refine appH1 rfl (.tmp 42) (.tmp 45) rfl (w.heap.size + 2) v3 (0 + k) ([] ++ h1s) rfl HO4.out w4.heap.size (.slice A4 x.length C4) rfl (by go_simp) rfl (by omega) (by simp; omega) ?_
         intro v5 w5 hown5 hg5 hat5
         have HO5 := Lib.hid hown5
         have hb45 : Below (w.heap.size + 2) w4 w5 := Below.then ((Below.refl (w.heap.size + 2) w4).alloc (show w.heap.size + 2 ≤ w4.heap.size by omega) (.cells #[.slice A4 x.length C4] 42)) (app_grown (B := w.heap.size + 2) hg5 (fun g hk => own_base HO4.out hk) (by simp; omega)) (Nat.le_refl _)
         have HS5 := Lib.hid (HS4.out.grown hg5 (fun _ ad e e2 => by have h1 := HOL.out _ e2; have h2 := HFR4.out ad e; omega))
         have HAT5 := Lib.hid hat5
         clear hat5
         have HB5 := Lib.hid (Below.then HB4.out (app_grown (B := w.heap.size + 2) hg5 (fun g hk => own_base HO4.out hk) (by simp; omega)) (Nat.le_refl _))
         have m15 : w5.cell? ⟨w.heap.size, 1, none⟩ = some (.slice RA X.length RC) := (hb45.cell (p := ⟨w.heap.size, 1, none⟩) (show w.heap.size < w.heap.size + 2 by omega)).trans m1
         have hz5 := HB5.out.size
         clear hown5 hg5 hb45 m1)
      | (at_builtin; refine appH rfl (.tmp 47) (.tmp 51) rfl (w.heap.size + 2) v5 (0 + k + 1) ([] ++ h1s ++ [.slice A4 x.length C4]) rfl HO5.out TA (X.length - k) (RC - k) h2s HL2.out rfl (HC2.out _ (fun p hp _ => HB5.out.cell (by omega))) HN2.out HH2.out.cells (by omega) (by omega) ?_
         intro v6 w6 hown6 hg6 _
         have HO6 := Lib.hid hown6
         have hs6 := HS5.out.grown hg6 (fun hy ad e e2 => by
           have h2 := HFR4.out ad e
           have h3 := HLT4.out hy ad e
           rcases HAT5.out with h4 | h4
           · rw [h4] at e2; have h1 := HOL.out _ e2; omega
           · rw [h4] at e2; injection e2 with e2; simp only [World.size_alloc] at e2; omega)
         have hb6 := Below.then HB5.out (app_grown (B := w.heap.size + 2) hg6 (fun g hk => own_base HO5.out hk) (by omega)) (Nat.le_refl _)
         have HB6 := Lib.hid hb6
         have r16 := HR12.out.below hb6 (by omega)
         have r26 := HR22.out.below hb6 (by omega)
         have m06 : w6.cell? ⟨w.heap.size, 0, none⟩ = some (.int .i64 n) := r16.cell 0
         have c06 : w6.cell? ⟨w.heap.size + 1, 0, none⟩ = some (.int .i64 0) := r26.cell 0
         have c16 : w6.cell? ⟨w.heap.size + 1, 1, none⟩ = some (.slice none 0 0) := r26.cell 1
         have f06 := r26.frozen 0
         have f16 := r26.frozen 1
         have hz6 := hb6.size
         have hz56 := hg6.size
         have hH6 : Hdrs (fun b => P b ∧ b ≠ w.heap.size + 1) w6.heap.size w6 ([] ++ h1s ++ [.slice A4 x.length C4] ++ h2s) (X.take k ++ [x] ++ X.drop k) := by
           rw [List.nil_append]
           refine (((HH1.out.keep (fun p hp _ => hb6.cell (by omega))).more (by omega)).append (Hdrs.one ⟨A4, C4, rfl, hc4, hm4, hs6, fun _ ad e => ?_⟩)).append ((HH2.out.keep (fun p hp _ => hb6.cell (by omega))).more (by omega))
           have := HFR4.out ad e
           exact ⟨HPN.out _ (by omega), by omega⟩
         obtain ⟨Y, hY⟩ : ∃ Y, Y = X.take k ++ [x] ++ X.drop k := ⟨_, rfl⟩
         rw [← hY] at hH6
         have hlY : 0 + k + 1 + (X.length - k) = Y.length := by rw [hY]; simp; omega
         have HYE := Lib.hid hY
         rw [hlY] at hown6
         obtain ⟨A6, C6, rfl, hc6, hm6, hs6'⟩ := own_slrs hown6 hH6 (Nat.le_refl _) (fun b hb => ⟨HPN.out b (by omega), by omega⟩)
         clear hown6 hg6 hb6 r16 r26 m15 hY hlY hH6)
      | fail)
    refine bodyPost_ret (v := .tuple #[.agg #[.int .i64 n, .slice A6 Y.length C6], .bool true, .int .i64 0]) ?_ rfl ⟨fun h => absurd HW.out h, fun _ => ⟨_, by rw [HD.out]; rfl, ?_⟩, ?_⟩
    · have z0 : (w6.setCell ⟨w.heap.size + 1, 0, none⟩ (.int .i64 n)).cell? ⟨w.heap.size + 1, 0, none⟩ = some (.int .i64 n) := World.cell?_setCell_same _ _ _ c06
      have z1 : ((w6.setCell ⟨w.heap.size + 1, 0, none⟩ (.int .i64 n)).setCell ⟨w.heap.size + 1, 1, none⟩ (.slice A6 Y.length C6)).cell? ⟨w.heap.size + 1, 1, none⟩ = some (.slice A6 Y.length C6) := World.cell?_setCell_same _ _ _ ((World.cell?_setCell_other _ _ _ _ (by simp)).trans c16)
      simp [results, Tryz.results81, go_sem, z0, z1]
    · rw [HI.out, ← HYE.out]
      refine ⟨A6, C6, rfl, hc6, hm6, ?_⟩
      have h := (hs6'.keep (w' := (w6.setCell ⟨w.heap.size + 1, 0, none⟩ (.int .i64 n)).setCell ⟨w.heap.size + 1, 1, none⟩ (.slice A6 Y.length C6)) (fun p hp hne => far_cell (p := ⟨w.heap.size + 1, 1, none⟩) (fun e => hne.2 e.symm) (far_cell (p := ⟨w.heap.size + 1, 0, none⟩) (fun e => hne.2 e.symm) rfl))).weak (P' := P) (fun b _ h => h.1)
      rw [show w6.heap.size = ((w6.setCell ⟨w.heap.size + 1, 0, none⟩ (.int .i64 n)).setCell ⟨w.heap.size + 1, 1, none⟩ (.slice A6 Y.length C6)).heap.size by simp] at h
      exact h
    · exact ((Below.then HE2.out.below HB6.out (by omega)).setCell (p := ⟨w.heap.size + 1, 0, none⟩) (show w.heap.size ≤ w.heap.size + 1 by omega) _).setCell (p := ⟨w.heap.size + 1, 1, none⟩) (show w.heap.size ≤ w.heap.size + 1 by omega) _
end
section
open Go.RowKit Go.Sort Go.ChangeMaps Go.WideShapes

abbrev Cont := ByteArray → List RL.R
abbrev Sch := List (ByteArray × List Int)
structure RowsOk (n : Nat) (X : List RL.R) : Prop where
  ss : RL.SS X
  ok : ∀ x ∈ X, wrongF (n : Int) x = 0
  many : X.length ≤ 4096
def SlIP (P : Nat → Prop) (w : World) (A : Option Addr) (ks : List Int) : Prop :=
  ks ≠ [] → ∃ b o, A = some ⟨b, o, none⟩ ∧ b < w.heap.size ∧ P b ∧ ∀ j u, (ks.map (Value.int .i64))[j]? = some u → w.cell? ⟨b, o + j, none⟩ = some u
def EntM (P : Nat → Prop) (w : World) (val : Value) (ks : List Int) (X : List RL.R) : Prop :=
  ∃ KA KC A C, val = .agg #[.slice KA ks.length KC, .int .i64 ks.length, .slice A X.length C] ∧ ks.length ≤ 6 ∧ SlIP P w KA ks ∧ X.length ≤ C ∧ C ≤ 9223372036854775807 ∧ SlRsP P w.heap.size w A X ∧ RowsOk ks.length X
def DbM (P : Nat → Prop) (S : Sch) (w : World) (m : Value) (F : Cont) : Prop :=
  ∃ b D, m = .map (some b) ∧ P b ∧ w.ownsMap Tryz.prog 9 heldR b (Maps.size D) D ∧ Maps.size D = S.length ∧ (∀ k, Maps.has D k = true → ∃ p ∈ S, k = litS p.1) ∧
    ∀ p ∈ S, ∃ val, (∀ z, D.atKey (litS p.1) z = .held val) ∧ EntM P w val p.2 (F p.1)
structure Ver where
  num : Int
  db : Cont
  pins : Int
section
variable {P P' : Nat → Prop} {S : Sch} {w w' : World} {m val : Value} {F : Cont} {V : List Ver} {ks : List Int} {X : List RL.R} {A : Option Addr} {D : DataW Value}
def Stay (P : Nat → Prop) (w w' : World) : Prop := w.heap.size ≤ w'.heap.size ∧ ∀ b, b < w.heap.size → P b → w'.heap[b]? = w.heap[b]?
theorem Stay.of (hb : Below w.heap.size w w') : Stay P w w' := ⟨hb.size, fun b h _ => hb.block b h⟩
theorem Stay.trans {w'' : World} (h : Stay P w w') (k : Stay P w' w'') : Stay P w w'' := ⟨Nat.le_trans h.1 k.1, fun b hb hp => (k.2 b (Nat.lt_of_lt_of_le hb h.1) hp).trans (h.2 b hb hp)⟩
theorem Stay.set {g : Nat} (hg : ¬ P g) (o : Nat) (u : Value) : Stay P w (w.setCell ⟨g, o, none⟩ u) := ⟨by simp, fun b _ hp => Below.heap_setCell w ⟨g, o, none⟩ u b (fun e => hg (by have e : b = g := e; rw [← e]; exact hp))⟩
theorem SlIP.keep (h : SlIP P w A ks) (hk : Stay P w w') : SlIP P w' A ks := fun hn => by
  obtain ⟨b, o, e, hb, hp, hc⟩ := h hn
  exact ⟨b, o, e, Nat.lt_of_lt_of_le hb hk.1, hp, fun j u hu => (World.cell?_of_block (hk.2 b hb hp)).trans (hc j u hu)⟩
theorem SlIP.weak (h : SlIP P w A ks) (hP : ∀ b, b < w.heap.size → P b → P' b) : SlIP P' w A ks := fun hn => by
  obtain ⟨b, o, e, hb, hp, hc⟩ := h hn
  exact ⟨b, o, e, hb, hP b hb hp, hc⟩
theorem EntM.keep (h : EntM P w val ks X) (hk : Stay P w w') : EntM P w' val ks X := by
  obtain ⟨KA, KC, A, C, h1, h2, h3, h4, h5, h6, h7⟩ := h
  exact ⟨KA, KC, A, C, h1, h2, h3.keep hk, h4, h5, (h6.keep fun p hp hP => World.cell?_of_block (hk.2 p.block hp hP)).more hk.1, h7⟩
theorem EntM.weak (h : EntM P w val ks X) (hP : ∀ b, b < w.heap.size → P b → P' b) : EntM P' w val ks X := by
  obtain ⟨KA, KC, A, C, h1, h2, h3, h4, h5, h6, h7⟩ := h
  exact ⟨KA, KC, A, C, h1, h2, h3.weak hP, h4, h5, h6.weak hP, h7⟩
theorem map_keep {k : TypeId} {b n : Nat} (h : w.ownsMap Tryz.prog k heldR b n D) (hP : P b) (hk : Stay P w w') : w'.ownsMap Tryz.prog k heldR b n D := by
  have hl := h.lt
  obtain ⟨es, clock, h1, h2⟩ := h
  exact ⟨es, clock, (hk.2 b hl hP).trans h1, h2⟩
theorem DbM.keep (h : DbM P S w m F) (hk : Stay P w w') : DbM P S w' m F := by
  obtain ⟨b, D, h1, h0, h2, h3, h4, h5⟩ := h
  exact ⟨b, D, h1, h0, map_keep h2 h0 hk, h3, h4, fun p hp => by obtain ⟨v, g1, g2⟩ := h5 p hp; exact ⟨v, g1, g2.keep hk⟩⟩
theorem DbM.weak (h : DbM P S w m F) (hP : ∀ b, b < w.heap.size → P b → P' b) : DbM P' S w m F := by
  obtain ⟨b, D, h1, h0, h2, h3, h4, h5⟩ := h
  exact ⟨b, D, h1, hP b h2.lt h0, h2, h3, h4, fun p hp => by obtain ⟨v, g1, g2⟩ := h5 p hp; exact ⟨v, g1, g2.weak hP⟩⟩
theorem DbM.up (h : DbM P S w m F) (hb : Below w.heap.size w w') : DbM P S w' m F := h.keep (Stay.of hb)
end
end
section
open Go.RowKit Go.Sort Go.ChangeMaps Go.WideShapes

theorem DbM.form {P : Nat → Prop} {S : Sch} {w : World} {m : Value} {F : Cont} (h : DbM P S w m F) : ∃ b, m = .map (some b) := let ⟨b, _, e, _⟩ := h; ⟨b, e⟩
end
end Go.Proofs.YtdadchpiibipoaaGreatDoor

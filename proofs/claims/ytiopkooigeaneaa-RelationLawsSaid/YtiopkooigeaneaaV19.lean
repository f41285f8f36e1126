/- Walks: the reference's Delete, Both, Union, Select, SelectSame. -/
import Derived.Test.YtiopkooigeaneaaV12
namespace Go.Proofs.Ytiopkooigeaneaa
open Go.RowKit Go.Sort

theorem filt_snoc (p : RL.R → Bool) (X : List RL.R) (k : Nat) (h : k < X.length) : (X.take (k + 1)).filter p = (X.take k).filter p ++ (if p X[k] = true then [X[k]] else []) := by
  rw [List.take_succ_eq_append_getElem h, List.filter_append]
  by_cases hw : p X[k] = true <;> simp [hw]
theorem filt_take_le (p : RL.R → Bool) (X : List RL.R) (k : Nat) : ((X.take k).filter p).length ≤ X.length := by
  have h1 := List.length_filter_le p (X.take k)
  have h2 := List.length_take_le k X
  rw [List.length_take] at h1
  omega
/-- A row below a bound does not lie in a block from the bound on. -/
theorem SlR.apart {B : Nat} {w : World} {A : Option Addr} {x : RL.R} {v : Value} (h : SlR B w A x) (hv : ∀ k, v.ownBlock = some k → B ≤ k) : x ≠ [] → ∀ ad, A = some ad → v.ownBlock ≠ some ad.block := fun hy ad e e2 => by
  obtain ⟨b', o', e', hb', _⟩ := h (ne_rcells hy)
  rw [e] at e'
  injection e' with e'
  have h4 := hv _ e2
  rw [e'] at h4
  simp only at h4
  omega

set_option maxHeartbeats 1000000 in
set_option maxRecDepth 100000 in
theorem r7Delete_any (XA A : Option Addr) (XC C : Nat) (X : List RL.R) (r : RL.R) (w : World) (hX : SlRs w.heap.size w XA X) (hr : SlR w.heap.size w A r) (hXl : X.length ≤ 100000) (hXo : RsOk X) (hro : ROk r) :
    Calls Try.prog 41 #[.slice XA X.length XC, .slice A r.length C] w fun e w' => ∃ v, e = .returned v ∧ RowsIs w' (RL.delF X r) v ∧ Below w.heap.size w w' := by
  have HX := Lib.hid hX
  have HR := Lib.hid hr
  have HXO := Lib.hid hXo
  have HRO := Lib.hid hro
  clear hX hXo hr hro
  go_enter Try.func41, Try.ntmps41
  go_wp2
  go_loopw [5, 6] (fun v i wr => ∃ k : Nat, k ≤ X.length ∧ i = .int .i64 k ∧ OwnRs wr w.heap.size 39 v ((X.take k).filter fun y => !decide (RL.cmpR y r = 0)) ∧ Below w.heap.size w wr) (fun _ i _ => X.length - (intOf i).toNat)
  case atStart => exact ⟨0, Nat.zero_le _, rfl, OwnRs.nil _ _ _, Below.refl _ _⟩
  case round =>
    obtain ⟨k, hka, rfl, hown, hbel⟩ := hrel
    have HO := Lib.hid hown
    have HB := Lib.hid hbel
    have hzz := hbel.size
    have hfl := filt_take_le (fun y => !decide (RL.cmpR y r = 0)) X k
    clear hown
    by_cases h1 : k < X.length
    · obtain ⟨b, o, A1, C1, rfl, hb, c1, hcap, hcm, s1⟩ := slRs_at HX.out h1
      have d1 := (hbel.cell (p := ⟨b, o + k, none⟩) hb).trans c1
      have HS1 := Lib.hid (s1.below hbel (Nat.le_refl _))
      have HC := Lib.hid (r7Compare_any A1 A C1 C X[k] r wr (HS1.out.more hzz) ((HR.out.below hbel (Nat.le_refl _)).more hzz) (HXO.out.at_ h1) HRO.out)
      have HN := Lib.hid (filt_snoc (fun y => !decide (RL.cmpR y r = 0)) X k h1)
      clear c1 s1 hbel
      generalize X[k] = x at d1 HC HN HS1 hcap
      generalize (X.take k).filter (fun y => !decide (RL.cmpR y r = 0)) = F at HO HN hfl
      go_wp2_with fail
      refine HC.out.mono ?_
      rintro e w1 ⟨rfl, hx1⟩
      have d2 := (hx1.cell (o := o + k) (show b < wr.heap.size by omega)).trans d1
      have HB1 := Lib.hid (Below.then HB.out hx1.below hzz)
      have HO1 := Lib.hid (HO.out.keep hx1.below)
      have HS2 := Lib.hid (HS1.out.below hx1.below hzz)
      have hz1 := HB1.out.size
      clear hx1 HC d1 HS1 HO
      by_cases hq : RL.cmpR x r = 0
      · have hq2 : (RL.cmpR x r != 0) = false := by simpa using hq
        have HN2 := Lib.hid (HN.out.trans (by simp [hq] : _ = F))
        clear hq HN
        generalize RL.cmpR x r = q at *
        go_wp2
        go_roundw
        case rel => exact ⟨k + 1, by omega, by go_num, by rw [HN2.out]; exact HO1.out, HB1.out⟩
        case measure => simp [intOf]; omega
      · have hq2 : (RL.cmpR x r != 0) = true := by simpa using hq
        have HN2 := Lib.hid (HN.out.trans (by simp [hq] : _ = F ++ [x]))
        have HO2 := Lib.hid (HO1.out.keep ((Below.refl _ _).alloc (Nat.le_refl _) (.cells #[.slice A1 x.length C1] 39)))
        have HB2 := Lib.hid (HB1.out.alloc hz1 (.cells #[.slice A1 x.length C1] 39))
        clear hq HN
        generalize RL.cmpR x r = q at *
        go_wp2_with (at_builtin; refine app1R7 rfl (.tmp 20) (.tmp 25) rfl w.heap.size u5 F rfl HO2.out w1.heap.size A1 C1 x rfl (by go_simp) ((HS2.out.ext hz1 ((Ext.refl _).alloc _)).more (by simp; omega)) hcap hcm (HS2.out.apart HO2.out.base) (by omega) (by simp; omega) ?_
                     intro v4 w4 hown4 hg4
                     have HO4 := Lib.hid hown4
                     have HB4 := Lib.hid (Below.then HB2.out (app_grown (B := w.heap.size) hg4 HO2.out.base (by simp; omega)) (Nat.le_refl _))
                     clear hown4 hg4)
        go_roundw
        case rel => exact ⟨k + 1, by omega, by go_num, by rw [HN2.out]; exact HO4.out, HB4.out⟩
        case measure => simp [intOf]; omega
    · have HT := Lib.hid (List.take_of_length_le (show X.length ≤ k by omega))
      rw [HT.out] at HO
      go_wp2
      go_ret
      exact ⟨_, rfl, HO.out.sl, hbel⟩

/-- The rows of X that are, or are not, in Y. -/
def bothF (X Y : List RL.R) (nt : Bool) : List RL.R := X.filter fun y => decide (y ∈ Y) != nt

set_option maxHeartbeats 1000000 in
set_option maxRecDepth 100000 in
theorem r7Both_any (XA YA : Option Addr) (XC YC : Nat) (X Y : List RL.R) (nt : Bool) (w : World) (hX : SlRs w.heap.size w XA X) (hY : SlRs w.heap.size w YA Y) (hXl : X.length ≤ 100000) (hYl : Y.length ≤ 100000) (hXo : RsOk X) (hYo : RsOk Y) :
    Calls Try.prog 50 #[.slice XA X.length XC, .slice YA Y.length YC, .bool nt] w fun e w' => ∃ v, e = .returned v ∧ RowsIs w' (bothF X Y nt) v ∧ Below w.heap.size w w' := by
  have HX := Lib.hid hX
  have HY := Lib.hid hY
  have HXO := Lib.hid hXo
  have HYO := Lib.hid hYo
  clear hX hXo hY hYo
  go_enter Try.func50, Try.ntmps50
  go_wp2
  go_loopw [7, 8] (fun v i wr => ∃ k : Nat, k ≤ X.length ∧ i = .int .i64 k ∧ OwnRs wr w.heap.size 39 v ((X.take k).filter fun y => decide (y ∈ Y) != nt) ∧ Below w.heap.size w wr) (fun _ i _ => X.length - (intOf i).toNat)
  case atStart => exact ⟨0, Nat.zero_le _, rfl, OwnRs.nil _ _ _, Below.refl _ _⟩
  case round =>
    obtain ⟨k, hka, rfl, hown, hbel⟩ := hrel
    have HO := Lib.hid hown
    have HB := Lib.hid hbel
    have hzz := hbel.size
    have hfl := filt_take_le (fun y => decide (y ∈ Y) != nt) X k
    clear hown
    by_cases h1 : k < X.length
    · obtain ⟨b, o, A1, C1, rfl, hb, c1, hcap, hcm, s1⟩ := slRs_at HX.out h1
      have d1 := (hbel.cell (p := ⟨b, o + k, none⟩) hb).trans c1
      have HS1 := Lib.hid (s1.below hbel (Nat.le_refl _))
      have HC := Lib.hid (r7Search_any YA A1 YC C1 Y X[k] wr ((HY.out.below hbel (Nat.le_refl _)).more hzz) (HS1.out.more hzz) (by omega) HYO.out (HXO.out.at_ h1))
      have HN := Lib.hid (filt_snoc (fun y => decide (y ∈ Y) != nt) X k h1)
      clear c1 s1 hbel
      generalize X[k] = x at d1 HC HN HS1 hcap
      generalize (X.take k).filter (fun y => decide (y ∈ Y) != nt) = F at HO HN hfl
      go_wp2_with fail
      refine HC.out.mono ?_
      rintro e w1 ⟨rfl, hx1⟩
      have d2 := (hx1.cell (o := o + k) (show b < wr.heap.size by omega)).trans d1
      have HB1 := Lib.hid (Below.then HB.out hx1.below hzz)
      have HO1 := Lib.hid (HO.out.keep hx1.below)
      have HS2 := Lib.hid (HS1.out.below hx1.below hzz)
      have hz1 := HB1.out.size
      clear hx1 HC d1 HS1 HO
      generalize decide (x ∈ Y) = q at *
      generalize RL.rank Y x = q2 at *
      by_cases hq : (q != nt) = false
      · have HN2 := Lib.hid (HN.out.trans (by simp [hq] : _ = F))
        clear HN
        cases q <;> cases nt <;> simp at hq
        all_goals
          go_wp2
          go_roundw
          case rel => exact ⟨k + 1, by omega, by go_num, by rw [HN2.out]; exact HO1.out, HB1.out⟩
          case measure => simp [intOf]; omega
      · have hq' : (q != nt) = true := by simpa using hq
        have HN2 := Lib.hid (HN.out.trans (by simp [hq'] : _ = F ++ [x]))
        have HO2 := Lib.hid (HO1.out.keep ((Below.refl _ _).alloc (Nat.le_refl _) (.cells #[.slice A1 x.length C1] 39)))
        have HB2 := Lib.hid (HB1.out.alloc hz1 (.cells #[.slice A1 x.length C1] 39))
        clear HN hq'
        cases q <;> cases nt <;> simp at hq
        all_goals
          go_wp2_with (at_builtin; refine app1R7 rfl (.tmp 29) (.tmp 34) rfl w.heap.size u7 F rfl HO2.out w1.heap.size A1 C1 x rfl (by go_simp) ((HS2.out.ext hz1 ((Ext.refl _).alloc _)).more (by simp; omega)) hcap hcm (HS2.out.apart HO2.out.base) (by omega) (by simp; omega) ?_
                       intro v4 w4 hown4 hg4
                       have HO4 := Lib.hid hown4
                       have HB4 := Lib.hid (Below.then HB2.out (app_grown (B := w.heap.size) hg4 HO2.out.base (by simp; omega)) (Nat.le_refl _))
                       clear hown4 hg4)
          go_roundw
          case rel => exact ⟨k + 1, by omega, by go_num, by rw [HN2.out]; exact HO4.out, HB4.out⟩
          case measure => simp [intOf]; omega
    · have HT := Lib.hid (List.take_of_length_le (show X.length ≤ k by omega))
      rw [HT.out] at HO
      go_wp2
      go_ret
      exact ⟨_, rfl, HO.out.sl, hbel⟩

/-- The rows of either. -/
def unionF (X Y : List RL.R) : List RL.R := Y.foldl RL.insF X
theorem unionF_snoc (X Y : List RL.R) (k : Nat) (h : k < Y.length) : unionF X (Y.take (k + 1)) = RL.insF (unionF X (Y.take k)) Y[k] := by
  unfold unionF
  rw [List.take_succ_eq_append_getElem h, List.foldl_append]; rfl
theorem mem_unionF' : ∀ (Y X : List RL.R) (r : RL.R), r ∈ unionF X Y ↔ r ∈ X ∨ r ∈ Y
  | [], X, r => by simp [unionF]
  | y :: Y, X, r => by
    have h := mem_unionF' Y (RL.insF X y) r
    show r ∈ unionF (RL.insF X y) Y ↔ _
    rw [h, RL.mem_insF, List.mem_cons]
    constructor
    · rintro ((h | h) | h)
      · exact .inl h
      · exact .inr (.inl h)
      · exact .inr (.inr h)
    · rintro (h | h | h)
      · exact .inl (.inl h)
      · exact .inl (.inr h)
      · exact .inr h
theorem unionF_length (X Y : List RL.R) : (unionF X Y).length ≤ X.length + Y.length := RL.foldl_ins_length Y X

set_option maxHeartbeats 1000000 in
set_option maxRecDepth 100000 in
theorem r7Union_any (XA YA : Option Addr) (XC YC : Nat) (X Y : List RL.R) (w : World) (hX : SlRs w.heap.size w XA X) (hY : SlRs w.heap.size w YA Y) (hXl : X.length ≤ 40000) (hYl : Y.length ≤ 40000) (hXo : RsOk X) (hYo : RsOk Y) (hXc : X.length ≤ XC) (hXm : XC ≤ 9223372036854775807) :
    Calls Try.prog 49 #[.slice XA X.length XC, .slice YA Y.length YC] w fun e w' => ∃ v, e = .returned v ∧ RowsIs w' (unionF X Y) v ∧ Below w.heap.size w w' := by
  have HX := Lib.hid hX
  have HY := Lib.hid hY
  have HXO := Lib.hid hXo
  have HYO := Lib.hid hYo
  clear hX hXo hY hYo
  go_enter Try.func49, Try.ntmps49
  go_wp2
  go_loopw [5, 6] (fun v i wr => ∃ k : Nat, k ≤ Y.length ∧ i = .int .i64 k ∧ RowsIs wr (unionF X (Y.take k)) v ∧ Below w.heap.size w wr) (fun _ i _ => Y.length - (intOf i).toNat)
  case atStart => exact ⟨0, Nat.zero_le _, rfl, ⟨XA, XC, rfl, hXc, hXm, HX.out⟩, Below.refl _ _⟩
  case round =>
    obtain ⟨k, hka, rfl, hrows, hbel⟩ := hrel
    have HR := Lib.hid hrows
    have HB := Lib.hid hbel
    have hzz := hbel.size
    have hul := unionF_length X (Y.take k)
    rw [List.length_take] at hul
    clear hrows
    by_cases h1 : k < Y.length
    · obtain ⟨b, o, A1, C1, rfl, hb, c1, hcap, hcm, s1⟩ := slRs_at HY.out h1
      have d1 := (hbel.cell (p := ⟨b, o + k, none⟩) hb).trans c1
      have HS1 := Lib.hid (s1.below hbel (Nat.le_refl _))
      have HN := Lib.hid (unionF_snoc X Y k h1)
      have HFO : Hid (RsOk (unionF X (Y.take k))) := fun y hy => by
        rcases (mem_unionF' _ _ _).1 hy with h | h
        · exact HXO.out y h
        · exact HYO.out y (List.mem_of_mem_take h)
      have HK := Lib.hid (HYO.out.at_ h1)
      clear c1 s1 hbel
      generalize Y[k] = x at d1 HN HS1 hcap HK
      generalize unionF X (Y.take k) = F at HR HN hul HFO
      obtain ⟨FA, FC, rfl, f1, f2, f3⟩ := HR.out
      have HC := Lib.hid (r7Insert_any FA A1 FC C1 F x wr f3 (HS1.out.more hzz) (by omega) HFO.out HK.out f1 f2 hcap hcm)
      clear f3 HR
      go_wp2_with fail
      refine HC.out.mono ?_
      rintro e w1 ⟨v1, rfl, hr1, hb1⟩
      have HR1 := Lib.hid hr1
      have HB1 := Lib.hid (Below.then HB.out hb1 hzz)
      clear hr1 hb1 HC
      go_wp2
      go_roundw
      case rel => exact ⟨k + 1, by omega, by go_num, by rw [HN.out]; exact HR1.out, HB1.out⟩
      case measure => simp [intOf]; omega
    · have HT := Lib.hid (List.take_of_length_le (show Y.length ≤ k by omega))
      rw [HT.out] at HR
      go_wp2
      go_ret
      exact ⟨_, rfl, HR.out, hbel⟩

end Go.Proofs.Ytiopkooigeaneaa

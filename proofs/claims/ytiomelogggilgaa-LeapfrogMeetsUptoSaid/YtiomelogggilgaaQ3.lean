/- Parts of the proof, merged: V12, V19, E5, V20, E6, V13, V14, V21, RMem, TPlain, I1, I2, I3. -/
import Derived.Test.YtiomelogggilgaaQ2
import Derived.StillTailTactics
import Derived.Outline
import Derived.IntWalk

section
/- Walks: ordinalref07.Insert, Of. -/
namespace Go.Proofs.Ytiomelogggilgaa
open Go.RowKit Go.Sort

/-- A value that reads as a list of rows. -/
def RowsIs (w : World) (X : List RL.R) (v : Value) : Prop := ∃ A C, v = .slice A X.length C ∧ X.length ≤ C ∧ C ≤ 9223372036854775807 ∧ SlRs w.heap.size w A X
theorem RowsIs.of_own {w : World} {B : Nat} {E : TypeId} {v : Value} {X : List RL.R} (h : OwnRs w B E v X) : RowsIs w X v := h.sl

theorem app_grown {w w' : World} {v : Value} {B : Nat} (h : w.grownBy w' v.ownBlock) (hv : ∀ k, v.ownBlock = some k → B ≤ k) (hB : B ≤ w.heap.size) : Below B w w' := (Below.refl B w).grown h hB hv

theorem ne_rcells {x : RL.R} (h : x ≠ []) : rcells x ≠ [] := fun h0 => by
  have := congrArg List.length h0
  rw [rcells_length] at this
  exact h (List.eq_nil_of_length_eq_zero (by simp only [List.length_nil] at this; omega))

set_option maxHeartbeats 2000000 in
set_option maxRecDepth 100000 in
theorem r7Insert_any (XA A : Option Addr) (XC C : Nat) (X : List RL.R) (r : RL.R) (w : World) (hX : SlRs w.heap.size w XA X) (hr : SlR w.heap.size w A r) (hXl : X.length ≤ 100000) (hXo : RsOk X) (hro : ROk r) (hXc : X.length ≤ XC) (hXm : XC ≤ 9223372036854775807) (hrc : r.length ≤ C) (hrm : C ≤ 9223372036854775807) :
    Calls Try.prog 80 #[.slice XA X.length XC, .slice A r.length C] w fun e w' => ∃ v, e = .returned v ∧ RowsIs w' (RL.insF X r) v ∧ Below w.heap.size w w' := by
  have HX := Lib.hid hX
  have HR := Lib.hid hr
  have HC := Lib.hid (r7Search_any XA A XC C X r w hX hr (by omega) hXo hro)
  have hrk := RL.rank_le X r
  clear hX hr hXo hro
  by_cases hm : r ∈ X
  · have HI : Hid (RL.insF X r = X) := by show _ = _; unfold RL.insF; rw [if_pos hm]
    have hd : decide (r ∈ X) = true := by simpa using hm
    rw [hd] at HC
    clear hm hd
    go_enter Try.func80, Try.ntmps80
    go_wp2_with fail
    refine HC.out.mono ?_
    rintro e w1 ⟨rfl, hx1⟩
    go_wp2
    go_ret
    refine ⟨_, rfl, ?_, hx1.below⟩
    rw [HI.out]
    exact ⟨XA, XC, rfl, hXc, hXm, HX.out.up hx1⟩
  · have HI : Hid (RL.insF X r = X.take (RL.rank X r) ++ [r] ++ X.drop (RL.rank X r)) := by show _ = _; unfold RL.insF; rw [if_neg hm]; simp
    have hd : decide (r ∈ X) = false := by simpa using hm
    rw [hd] at HC
    clear hm hd
    by_cases hlt : RL.rank X r < X.length
    · obtain ⟨b, o, -, -, rfl, hb, -, -, -, -⟩ := slRs_at HX.out hlt
      have HT := Lib.hid (HX.out.take (RL.rank X r))
      have HD := Lib.hid (HX.out.drop (RL.rank X r))
      have hle : RL.rank X r ≤ XC := by omega
      have hlt2 : RL.rank X r < XC := by omega
      have htl : (X.take (RL.rank X r)).length = RL.rank X r := by simp; omega
      have hdl : (X.drop (RL.rank X r)).length = X.length - RL.rank X r := by simp
      have HTL := Lib.hid htl
      have HDL := Lib.hid hdl
      clear htl hdl
      go_enter Try.func80, Try.ntmps80
      go_wp2_with fail
      refine HC.out.mono ?_
      rintro e w1 ⟨rfl, hx1⟩
      have hz1 := hx1.size
      have HB1 := Lib.hid hx1.below
      have HO1 := Lib.hid (OwnRs.nil w1 w.heap.size 56)
      go_wp2_with (first
        | (at_builtin; refine appManyR7 rfl (.tmp 16) (.tmp 19) rfl w.heap.size (.slice none 0 0) [] rfl HO1.out (some ⟨b, o, none⟩) XC (X.take (RL.rank X r)) (by rw [HTL.out]; rfl) (HT.out.ext (Nat.le_refl _) hx1) (by simp; omega) hz1 ?_
           intro v2 w2 hown2 hg2
           rw [List.nil_append] at hown2
           have HO2 := Lib.hid (hown2.keep ((Below.refl _ _).alloc (Nat.le_refl _) (.cells #[.slice A r.length C] 56)))
           have hb2 := Below.then HB1.out (app_grown (B := w.heap.size) hg2 (fun k hk => by simp [Value.ownBlock] at hk) hz1) (Nat.le_refl _)
           have hz2 := hb2.size
           have HB2 := Lib.hid (hb2.alloc hz2 (.cells #[.slice A r.length C] 56))
           clear hown2 hg2 hb2)
        | (at_builtin; refine app1R7 rfl (.tmp 21) (.tmp 23) rfl w.heap.size v2 (X.take (RL.rank X r)) rfl HO2.out w2.heap.size A C r rfl (by go_simp) ((HR.out.below HB2.out (Nat.le_refl _)).more (by simp; omega)) hrc hrm (fun hy ad e e2 => by have h4 := HO2.out.base _ e2; obtain ⟨b', o', e', hb', _⟩ := HR.out (ne_rcells hy); rw [e] at e'; injection e' with e'; rw [e'] at h4; simp only at h4; omega) (by have := HTL.out; omega) (by simp; omega) ?_
           intro v3 w3 hown3 hg3
           have HO3 := Lib.hid hown3
           have HB3 := Lib.hid (Below.then HB2.out (app_grown (B := w.heap.size) hg3 HO2.out.base (by simp; omega)) (Nat.le_refl _))
           have hz3 := HB3.out.size
           clear hown3 hg3)
        | (at_builtin; refine appManyR7 rfl (.tmp 25) (.tmp 28) rfl w.heap.size v3 (X.take (RL.rank X r) ++ [r]) rfl HO3.out (some ⟨b, o + RL.rank X r, none⟩) (XC - RL.rank X r) (X.drop (RL.rank X r)) (by rw [HDL.out]; rfl) (HD.out.below HB3.out (Nat.le_refl _)) (by simp; omega) hz3 ?_
           intro v4 w4 hown4 hg4
           have HO4 := Lib.hid hown4
           have HB4 := Lib.hid (Below.then HB3.out (app_grown (B := w.heap.size) hg4 HO3.out.base hz3) (Nat.le_refl _))
           clear hown4 hg4)
        | fail)
      go_ret
      exact ⟨_, rfl, by rw [HI.out]; exact HO4.out.sl, HB4.out⟩
    · have hrk2 : RL.rank X r = X.length := by omega
      rw [hrk2] at HI HC
      rw [List.take_of_length_le (Nat.le_refl _), List.drop_of_length_le (Nat.le_refl _), List.append_nil] at HI
      clear hrk hlt hrk2
      by_cases hcl : XC = X.length
      · subst hcl
        go_enter Try.func80, Try.ntmps80
        go_wp2_with fail
        refine HC.out.mono ?_
        rintro e w1 ⟨rfl, hx1⟩
        have hz1 := hx1.size
        have HB1 := Lib.hid hx1.below
        have HO1 := Lib.hid (OwnRs.nil w1 w.heap.size 56)
        go_wp2_with (first
          | (at_builtin; refine appManyR7 rfl (.tmp 16) (.tmp 19) rfl w.heap.size (.slice none 0 0) [] rfl HO1.out XA _ X rfl (HX.out.ext (Nat.le_refl _) hx1) (by simp; omega) hz1 ?_
             intro v2 w2 hown2 hg2
             rw [List.nil_append] at hown2
             have HO2 := Lib.hid (hown2.keep ((Below.refl _ _).alloc (Nat.le_refl _) (.cells #[.slice A r.length C] 56)))
             have hb2 := Below.then HB1.out (app_grown (B := w.heap.size) hg2 (fun k hk => by simp [Value.ownBlock] at hk) hz1) (Nat.le_refl _)
             have hz2 := hb2.size
             have HB2 := Lib.hid (hb2.alloc hz2 (.cells #[.slice A r.length C] 56))
             clear hown2 hg2 hb2)
          | (at_builtin; refine app1R7 rfl (.tmp 21) (.tmp 23) rfl w.heap.size v2 X rfl HO2.out w2.heap.size A C r rfl (by go_simp) ((HR.out.below HB2.out (Nat.le_refl _)).more (by simp; omega)) hrc hrm (fun hy ad e e2 => by have h4 := HO2.out.base _ e2; obtain ⟨b', o', e', hb', _⟩ := HR.out (ne_rcells hy); rw [e] at e'; injection e' with e'; rw [e'] at h4; simp only at h4; omega) (by omega) (by simp; omega) ?_
             intro v3 w3 hown3 hg3
             have HO3 := Lib.hid hown3
             have HB3 := Lib.hid (Below.then HB2.out (app_grown (B := w.heap.size) hg3 HO2.out.base (by simp; omega)) (Nat.le_refl _))
             have hz3 := HB3.out.size
             clear hown3 hg3)
          | (at_builtin; refine appManyR7 rfl (.tmp 25) (.tmp 28) rfl w.heap.size v3 (X ++ [r]) rfl HO3.out _ _ [] rfl SlRs.nil (by simp; omega) hz3 ?_
             intro v4 w4 hown4 hg4
             rw [List.append_nil] at hown4
             have HO4 := Lib.hid hown4
             have HB4 := Lib.hid (Below.then HB3.out (app_grown (B := w.heap.size) hg4 HO3.out.base hz3) (Nat.le_refl _))
             clear hown4 hg4)
          | fail)
        go_ret
        exact ⟨_, rfl, by rw [HI.out]; exact HO4.out.sl, HB4.out⟩
      · go_enter Try.func80, Try.ntmps80
        go_wp2_with fail
        refine HC.out.mono ?_
        rintro e w1 ⟨rfl, hx1⟩
        have hz1 := hx1.size
        have HB1 := Lib.hid hx1.below
        have HO1 := Lib.hid (OwnRs.nil w1 w.heap.size 56)
        go_wp2_with (first
          | (at_builtin; refine appManyR7 rfl (.tmp 16) (.tmp 19) rfl w.heap.size (.slice none 0 0) [] rfl HO1.out XA _ X rfl (HX.out.ext (Nat.le_refl _) hx1) (by simp; omega) hz1 ?_
             intro v2 w2 hown2 hg2
             rw [List.nil_append] at hown2
             have HO2 := Lib.hid (hown2.keep ((Below.refl _ _).alloc (Nat.le_refl _) (.cells #[.slice A r.length C] 56)))
             have hb2 := Below.then HB1.out (app_grown (B := w.heap.size) hg2 (fun k hk => by simp [Value.ownBlock] at hk) hz1) (Nat.le_refl _)
             have hz2 := hb2.size
             have HB2 := Lib.hid (hb2.alloc hz2 (.cells #[.slice A r.length C] 56))
             clear hown2 hg2 hb2)
          | (at_builtin; refine app1R7 rfl (.tmp 21) (.tmp 23) rfl w.heap.size v2 X rfl HO2.out w2.heap.size A C r rfl (by go_simp) ((HR.out.below HB2.out (Nat.le_refl _)).more (by simp; omega)) hrc hrm (fun hy ad e e2 => by have h4 := HO2.out.base _ e2; obtain ⟨b', o', e', hb', _⟩ := HR.out (ne_rcells hy); rw [e] at e'; injection e' with e'; rw [e'] at h4; simp only at h4; omega) (by omega) (by simp; omega) ?_
             intro v3 w3 hown3 hg3
             have HO3 := Lib.hid hown3
             have HB3 := Lib.hid (Below.then HB2.out (app_grown (B := w.heap.size) hg3 HO2.out.base (by simp; omega)) (Nat.le_refl _))
             have hz3 := HB3.out.size
             clear hown3 hg3)
          | (at_builtin; refine appManyR7 rfl (.tmp 25) (.tmp 28) rfl w.heap.size v3 (X ++ [r]) rfl HO3.out _ _ [] rfl SlRs.nil (by simp; omega) hz3 ?_
             intro v4 w4 hown4 hg4
             rw [List.append_nil] at hown4
             have HO4 := Lib.hid hown4
             have HB4 := Lib.hid (Below.then HB3.out (app_grown (B := w.heap.size) hg4 HO3.out.base hz3) (Nat.le_refl _))
             clear hown4 hg4)
          | fail)
        go_ret
        exact ⟨_, rfl, by rw [HI.out]; exact HO4.out.sl, HB4.out⟩

theorem ofF_snoc (X : List RL.R) (k : Nat) (h : k < X.length) : RL.ofF (X.take (k + 1)) = RL.insF (RL.ofF (X.take k)) X[k] := by
  unfold RL.ofF
  rw [List.take_succ_eq_append_getElem h, List.foldl_append]
  rfl
theorem RsOk.of_mem {X Y : List RL.R} (h : RsOk X) (hs : ∀ y ∈ Y, y ∈ X) : RsOk Y := fun y hy => h y (hs y hy)
theorem RowsIs.upB {w w' : World} {X : List RL.R} {v : Value} (h : RowsIs w X v) (hb : Below w.heap.size w w') : RowsIs w' X v := by
  obtain ⟨A, C, h1, h2, h3, h4⟩ := h
  exact ⟨A, C, h1, h2, h3, h4.upB hb⟩

end Go.Proofs.Ytiomelogggilgaa
end

section
/- Walks: the reference's Delete, Both, Union, Select, SelectSame. -/
namespace Go.Proofs.Ytiomelogggilgaa
open Go.RowKit Go.Sort

theorem filt_snoc (p : RL.R → Bool) (X : List RL.R) (k : Nat) (h : k < X.length) : (X.take (k + 1)).filter p = (X.take k).filter p ++ (if p X[k] = true then [X[k]] else []) := by
  rw [List.take_succ_eq_append_getElem h, List.filter_append]
  by_cases hw : p X[k] = true <;> simp [hw]
theorem filt_take_le (p : RL.R → Bool) (X : List RL.R) (k : Nat) : ((X.take k).filter p).length ≤ X.length := by
  have h1 := List.length_filter_le p (X.take k)
  have h2 := List.length_take_le k X
  rw [List.length_take] at h1
  omega
/-- A row below a bound does not lie in a block from the bound on. -/
theorem SlR.apart {B : Nat} {w : World} {A : Option Addr} {x : RL.R} {v : Value} (h : SlR B w A x) (hv : ∀ k, v.ownBlock = some k → B ≤ k) : x ≠ [] → ∀ ad, A = some ad → v.ownBlock ≠ some ad.block := fun hy ad e e2 => by
  obtain ⟨b', o', e', hb', _⟩ := h (ne_rcells hy)
  rw [e] at e'
  injection e' with e'
  have h4 := hv _ e2
  rw [e'] at h4
  simp only at h4
  omega

/-- The rows of X that are, or are not, in Y. -/
def bothF (X Y : List RL.R) (nt : Bool) : List RL.R := X.filter fun y => decide (y ∈ Y) != nt

/-- The rows of either. -/
def unionF (X Y : List RL.R) : List RL.R := Y.foldl RL.insF X
theorem unionF_snoc (X Y : List RL.R) (k : Nat) (h : k < Y.length) : unionF X (Y.take (k + 1)) = RL.insF (unionF X (Y.take k)) Y[k] := by
  unfold unionF
  rw [List.take_succ_eq_append_getElem h, List.foldl_append]; rfl
theorem mem_unionF' : ∀ (Y X : List RL.R) (r : RL.R), r ∈ unionF X Y ↔ r ∈ X ∨ r ∈ Y
  | [], X, r => by simp [unionF]
  | y :: Y, X, r => by
    have h := mem_unionF' Y (RL.insF X y) r
    show r ∈ unionF (RL.insF X y) Y ↔ _
    rw [h, RL.mem_insF, List.mem_cons]
    constructor
    · rintro ((h | h) | h)
      · exact .inl h
      · exact .inr (.inl h)
      · exact .inr (.inr h)
    · rintro (h | h | h)
      · exact .inl (.inl h)
      · exact .inl (.inr h)
      · exact .inr h
theorem unionF_length (X Y : List RL.R) : (unionF X Y).length ≤ X.length + Y.length := RL.foldl_ins_length Y X

end Go.Proofs.Ytiomelogggilgaa
end

section
/- Rows' headers as lists of values; lists of rows that lie only in blocks of a given kind. -/
namespace Go.Proofs.Ytiomelogggilgaa
open Go.RowKit Go.Sort

/-- The header u reads as the row y, which lies below block B, in blocks that P allows. -/
def HR (P : Nat → Prop) (B : Nat) (w : World) (u : Value) (y : RL.R) : Prop :=
  ∃ A' C', u = .slice A' y.length C' ∧ y.length ≤ C' ∧ C' ≤ 9223372036854775807 ∧ SlR B w A' y ∧ (y ≠ [] → ∀ ad, A' = some ad → P ad.block)
/-- A list of headers, and the rows that they read. -/
def Hdrs (P : Nat → Prop) (B : Nat) (w : World) (hs : List Value) (Y : List RL.R) : Prop :=
  hs.length = Y.length ∧ ∀ (i : Nat) u y, hs[i]? = some u → Y[i]? = some y → HR P B w u y

theorem SlR.keepP {P : Nat → Prop} {B : Nat} {w w' : World} {A : Option Addr} {y : RL.R} (h : SlR B w A y) (hP : y ≠ [] → ∀ ad, A = some ad → P ad.block) (hk : ∀ p : Addr, p.block < B → P p.block → w'.cell? p = w.cell? p) : SlR B w' A y := fun hn => by
  have hy : y ≠ [] := by intro e; subst e; exact hn rfl
  obtain ⟨b, o, e, hb, hc⟩ := h hn
  have hp := hP hy _ e
  exact ⟨b, o, e, hb, fun i u hu => (hk ⟨b, o + i, none⟩ hb hp).trans (hc i u hu)⟩
theorem SlR.lt_of {B : Nat} {w : World} {A : Option Addr} {y : RL.R} (h : SlR B w A y) : y ≠ [] → ∀ ad, A = some ad → ad.block < B := fun hy ad e => by
  obtain ⟨b, o, e', hb, _⟩ := h (ne_rcells hy)
  rw [e] at e'
  injection e' with e'
  rw [e']
  exact hb

section
variable {P P' : Nat → Prop} {B B' : Nat} {w w' : World} {hs ks : List Value} {Y Z : List RL.R} {u : Value} {y : RL.R}
theorem HR.keep (h : HR P B w u y) (hk : ∀ p : Addr, p.block < B → P p.block → w'.cell? p = w.cell? p) : HR P B w' u y := by
  obtain ⟨A', C', h1, h2, h3, h4, h5⟩ := h
  exact ⟨A', C', h1, h2, h3, h4.keepP h5 hk, h5⟩
theorem HR.more (h : HR P B w u y) (hB : B ≤ B') : HR P B' w u y := by
  obtain ⟨A', C', h1, h2, h3, h4, h5⟩ := h
  exact ⟨A', C', h1, h2, h3, h4.more hB, h5⟩
theorem HR.weak (h : HR P B w u y) (hP : ∀ b, b < B → P b → P' b) : HR P' B w u y := by
  obtain ⟨A', C', h1, h2, h3, h4, h5⟩ := h
  exact ⟨A', C', h1, h2, h3, h4, fun hy ad e => hP _ (h4.lt_of hy ad e) (h5 hy ad e)⟩
theorem HR.one (h : HR P B w u y) : u.oneCell' = true := by
  obtain ⟨A', C', rfl, _⟩ := h
  rfl
theorem Hdrs.nil : Hdrs P B w [] [] := ⟨rfl, fun i u y h => by simp at h⟩
theorem Hdrs.one (h : HR P B w u y) : Hdrs P B w [u] [y] := ⟨rfl, fun i u' y' h1 h2 => by
  cases i with
  | zero => simp at h1 h2; subst h1 h2; exact h
  | succ i => simp at h1⟩
theorem Hdrs.append (h : Hdrs P B w hs Y) (k : Hdrs P B w ks Z) : Hdrs P B w (hs ++ ks) (Y ++ Z) := by
  refine ⟨by simp [h.1, k.1], fun i u y h1 h2 => ?_⟩
  have hl := h.1
  by_cases hi : i < hs.length
  · rw [List.getElem?_append_left hi] at h1
    rw [List.getElem?_append_left (by omega)] at h2
    exact h.2 i u y h1 h2
  · rw [List.getElem?_append_right (by omega)] at h1
    rw [List.getElem?_append_right (by omega), ← hl] at h2
    exact k.2 _ u y h1 h2
theorem Hdrs.take (h : Hdrs P B w hs Y) (n : Nat) : Hdrs P B w (hs.take n) (Y.take n) := by
  refine ⟨by simp [h.1], fun i u y h1 h2 => ?_⟩
  rw [List.getElem?_take] at h1 h2
  split at h1
  · rename_i hi
    rw [if_pos hi] at h2
    exact h.2 i u y h1 h2
  · cases h1
theorem Hdrs.drop (h : Hdrs P B w hs Y) (n : Nat) : Hdrs P B w (hs.drop n) (Y.drop n) := by
  refine ⟨by simp [h.1], fun i u y h1 h2 => ?_⟩
  rw [List.getElem?_drop] at h1 h2
  exact h.2 _ u y h1 h2
theorem Hdrs.keep (h : Hdrs P B w hs Y) (hk : ∀ p : Addr, p.block < B → P p.block → w'.cell? p = w.cell? p) : Hdrs P B w' hs Y := ⟨h.1, fun i u y h1 h2 => (h.2 i u y h1 h2).keep hk⟩
theorem Hdrs.more (h : Hdrs P B w hs Y) (hB : B ≤ B') : Hdrs P B' w hs Y := ⟨h.1, fun i u y h1 h2 => (h.2 i u y h1 h2).more hB⟩
theorem Hdrs.weak (h : Hdrs P B w hs Y) (hP : ∀ b, b < B → P b → P' b) : Hdrs P' B w hs Y := ⟨h.1, fun i u y h1 h2 => (h.2 i u y h1 h2).weak hP⟩
theorem Hdrs.cells (h : Hdrs P B w hs Y) : ∀ u ∈ hs, u.oneCell' = true := fun u hu => by
  obtain ⟨i, hi, rfl⟩ := List.getElem_of_mem hu
  exact (h.2 i _ (Y[i]'(by rw [← h.1]; exact hi)) (List.getElem?_eq_getElem hi) (List.getElem?_eq_getElem _)).one
theorem Hdrs.at_ (h : Hdrs P B w hs Y) {i : Nat} (hi : i < Y.length) : ∃ A' C', hs[i]? = some (.slice A' Y[i].length C') ∧ Y[i].length ≤ C' ∧ C' ≤ 9223372036854775807 ∧ SlR B w A' Y[i] ∧ (Y[i] ≠ [] → ∀ ad, A' = some ad → P ad.block) := by
  have hi' : i < hs.length := by rw [h.1]; exact hi
  obtain ⟨A', C', h1, h2⟩ := h.2 i _ _ (List.getElem?_eq_getElem hi') (List.getElem?_eq_getElem hi)
  exact ⟨A', C', by rw [List.getElem?_eq_getElem hi', h1], h2⟩
end

/-- The slice at address A reads as the rows X; all of it lies below B, in blocks that P allows. -/
def SlRsP (P : Nat → Prop) (B : Nat) (w : World) (A : Option Addr) (X : List RL.R) : Prop :=
  X ≠ [] → ∃ b o, A = some ⟨b, o, none⟩ ∧ b < B ∧ P b ∧ ∃ hs, Hdrs P B w hs X ∧ ∀ i u, hs[i]? = some u → w.cell? ⟨b, o + i, none⟩ = some u

section
variable {P P' : Nat → Prop} {B B' : Nat} {w w' : World} {A : Option Addr} {X : List RL.R}
theorem SlRsP.nil : SlRsP P B w A [] := fun h => absurd rfl h
theorem SlRs.toP (h : SlRs B w A X) : SlRsP (fun b => b < B) B w A X := fun hn => by
  obtain ⟨hs, h1, h2, h3, h4, h5⟩ := h.hdrs
  obtain ⟨b, o, rfl, hb, hc⟩ := h hn
  refine ⟨b, o, rfl, hb, hb, hs, ⟨h1, fun i u y hu hy => ?_⟩, fun i u hu => by have := h3 _ rfl i u hu; rwa [Addr.add_lit] at this⟩
  obtain ⟨hi, rfl⟩ := List.getElem?_eq_some_iff.1 hy
  obtain ⟨A', C', g1, g2, g3, g4⟩ := h5 i hi
  rw [hu] at g1
  injection g1 with g1
  exact ⟨A', C', g1, g2, g3, g4, g4.lt_of⟩
theorem SlRsP.sl (h : SlRsP P B w A X) : SlRs B w A X := fun hn => by
  obtain ⟨b, o, e, hb, _, hs, hH, hc⟩ := h hn
  refine ⟨b, o, e, hb, fun i hi => ?_⟩
  obtain ⟨A', C', g1, g2, g3, g4, _⟩ := hH.at_ hi
  exact ⟨A', C', hc i _ g1, g2, g3, g4⟩
theorem SlRsP.keep (h : SlRsP P B w A X) (hk : ∀ p : Addr, p.block < B → P p.block → w'.cell? p = w.cell? p) : SlRsP P B w' A X := fun hn => by
  obtain ⟨b, o, e, hb, hp, hs, hH, hc⟩ := h hn
  exact ⟨b, o, e, hb, hp, hs, hH.keep hk, fun i u hu => (hk ⟨b, o + i, none⟩ hb hp).trans (hc i u hu)⟩
theorem SlRsP.more (h : SlRsP P B w A X) (hB : B ≤ B') : SlRsP P B' w A X := fun hn => by
  obtain ⟨b, o, e, hb, hp, hs, hH, hc⟩ := h hn
  exact ⟨b, o, e, by omega, hp, hs, hH.more hB, hc⟩
theorem SlRsP.weak (h : SlRsP P B w A X) (hP : ∀ b, b < B → P b → P' b) : SlRsP P' B w A X := fun hn => by
  obtain ⟨b, o, e, hb, hp, hs, hH, hc⟩ := h hn
  exact ⟨b, o, e, hb, hP b hb hp, hs, hH.weak hP, hc⟩
theorem SlRsP.hdrs (h : SlRsP P B w A X) : ∃ hs, Hdrs P B w hs X ∧ (∀ ad, A = some ad → ∀ j u, hs[j]? = some u → w.cell? (ad.add j) = some u) ∧ (A = none → X = []) := by
  by_cases hn : X = []
  · subst hn
    exact ⟨[], Hdrs.nil, fun _ _ j u hu => by simp at hu, fun _ => rfl⟩
  obtain ⟨b, o, rfl, hb, hp, hs, hH, hc⟩ := h hn
  exact ⟨hs, hH, fun ad e j u hu => by injection e with e; subst e; rw [Addr.add_lit]; exact hc j u hu, fun e => by cases e⟩
theorem SlRsP.at_ (h : SlRsP P B w A X) {i : Nat} (hi : i < X.length) : ∃ b o A' C', A = some ⟨b, o, none⟩ ∧ b < B ∧ P b ∧ w.cell? ⟨b, o + i, none⟩ = some (.slice A' X[i].length C') ∧ HR P B w (.slice A' X[i].length C') X[i] := by
  obtain ⟨b, o, e, hb, hp, hs, hH, hc⟩ := h (by intro h0; subst h0; simp at hi)
  obtain ⟨A', C', g1, g2, g3, g4, g5⟩ := hH.at_ hi
  exact ⟨b, o, A', C', e, hb, hp, hc i _ g1, A', C', rfl, g2, g3, g4, g5⟩
end

/-- The rows' headers that the call owns, as a list of rows that is read. -/
theorem own_slrs {P : Nat → Prop} {w : World} {base B : Nat} {E : TypeId} {v : Value} {hs : List Value} {Y : List RL.R} (h : w.ownsRow base E 1 v Y.length hs) (hd : Hdrs P B w hs Y) (hB : B ≤ w.heap.size) (hP : ∀ b, base ≤ b → P b) :
    ∃ A C, v = .slice A Y.length C ∧ Y.length ≤ C ∧ C ≤ 9223372036854775807 ∧ SlRsP P w.heap.size w A Y := by
  have hl := hd.1
  obtain ⟨A, c, e1, hc, e3, hsl⟩ := Sl.of_own h
  rw [hl] at e1 hc
  refine ⟨A, c, e1, hc, ?_, fun hn => ?_⟩
  · rcases h.2 with ⟨g1, g0⟩ | ⟨g, cap, cur, g1, _, _, _, hm, _⟩
    · rw [g1] at e1; injection e1 with _ _ e3; omega
    · rw [g1] at e1; injection e1 with _ _ e3; unfold maxLen at hm; omega
  · obtain ⟨b, o, e, hb, hcell⟩ := hsl (by intro h0; rw [h0] at hl; exact hn (List.eq_nil_of_length_eq_zero hl.symm))
    refine ⟨b, o, e, hb, hP b (own_base h (k := b) (by rw [e1, e]; rfl)), hs, hd.more hB, hcell⟩

theorem own_grown {w w' : World} {base : Nat} {e : TypeId} {size : Nat} {v : Value} {n : Nat} {xs : List Value} {row : Option Nat} (h : w.ownsRow base e size v n xs) (hg : w.grownBy w' row) (hne : ∀ k, v.ownBlock = some k → some k ≠ row) : w'.ownsRow base e size v n xs := by
  have hlt := own_lt h
  refine ⟨h.1, ?_⟩
  rcases h.2 with h1 | ⟨g, cap, cur, h1, h2, h3, h4⟩
  · exact .inl h1
  · refine .inr ⟨g, cap, cur, h1, h2, ?_, h4⟩
    have ho : v.ownBlock = some g := by rw [h1]; rfl
    rw [hg.block g (hlt g ho) (hne g ho)]
    exact h3

theorem grown_trans {a w w' : World} {row : Option Nat} (h : a.grownBy w row) (k : w.grownBy w' row) : a.grownBy w' row :=
  ⟨k.os.trans h.os, k.tape.trans h.tape, k.output.trans h.output, Nat.le_trans h.size k.size, fun b hb hne => (k.block b (Nat.lt_of_lt_of_le hb h.size) hne).trans (h.block b hb hne)⟩
theorem grown_below {a w w' : World} {row : Option Nat} {C : Nat} (h : a.grownBy w row) (hb : Below C w w') (hC : a.heap.size ≤ C) : a.grownBy w' row :=
  ⟨hb.os.trans h.os, hb.tape.trans h.tape, hb.output.trans h.output, Nat.le_trans h.size hb.size, fun b hb' hne => (hb.block b (by omega)).trans (h.block b hb' hne)⟩
theorem Ext.grown {w w' : World} (h : Ext w w') (row : Option Nat) : w.grownBy w' row := by
  have hb := h.below
  exact ⟨hb.os, hb.tape, hb.output, hb.size, fun b hb' _ => hb.block b hb'⟩
theorem grown_of_below {w w' : World} (h : Below w.heap.size w w') (row : Option Nat) : w.grownBy w' row := ⟨h.os, h.tape, h.output, h.size, fun b hb' _ => h.block b hb'⟩
/-- Blocks below B, where the one that turns lies from B on. -/
theorem below_of_grown {w w' : World} {g B : Nat} (h : w.grownBy w' (some g)) (hB : B ≤ g) (hz : B ≤ w.heap.size) : Below B w w' := ⟨h.os, h.tape, h.output, h.size, fun b hb => h.block b (by omega) (fun e => by injection e with e; omega)⟩

/-- append of headers to a list of headers of the call's own. -/
theorem appH {w : World} {ops : Array Oper} {rest : List Oper} {o : Oper} {a : Act} {Q : Exit → Act → World → Prop} (hgd : o.guard = none) (s x : Operand)
    (ho : o.op = .call { callee := .builtin .append, args := #[s, x], argTypes := #[32, 32] })
    (base : Nat) (v : Value) (n : Nat) (hs : List Value) (hs0 : a.eval s = v) (hown : w.ownsRow base 34 1 v n hs)
    (A : Option Addr) (m C : Nat) (ns : List Value) (hm : ns.length = m) (hx : a.eval x = .slice A m C) (hcell : ∀ ad, A = some ad → ∀ j u, ns[j]? = some u → w.cell? (ad.add j) = some u) (hnone : A = none → ns = []) (ho1 : ∀ u ∈ ns, u.oneCell' = true)
    (hn : (n + m) * 24 ≤ 140737488355328) (hbase : base ≤ w.heap.size)
    (h : ∀ v' w', w'.ownsRow base 34 1 v' (n + m) (hs ++ ns) → w.grownBy w' v.ownBlock → (v'.ownBlock = v.ownBlock ∨ v'.ownBlock = some w.heap.size) → wpList Try.prog ops Q rest (a.put o.dst v') w') : wpList Try.prog ops Q (o :: rest) a w := by
  subst hm
  obtain ⟨i0, hi0, hz0, hz1, hz2⟩ := info_parts rowInfo
  refine wpList_plain hgd fun K hK => ?_
  rcases A with _ | ad
  · have hy := hnone rfl
    subst hy
    have hrun := run_append_none (P := Try.prog) w base 32 o.type 34 i0 1 Try.underlying32 hi0 v n hs hown C
    unfold Oper.wp execOp
    simp only [List.length_nil] at hx
    simp only [ho, resolve, invoke, builtin, Sem.run_bind, Sem.run_pure, Result.andThen_ok, List.map_toArray, List.map_cons, List.map_nil, hs0, hx, hrun]
    exact hK _ _ (h v w (by rw [List.append_nil]; exact hown) ⟨rfl, rfl, rfl, Nat.le_refl _, fun _ _ _ => rfl⟩ (.inl rfl))
  · obtain ⟨v', w', hrun, k2, k3, _, k5⟩ := run_append_own_at (P := Try.prog) w base 32 o.type 34 i0 _ 1 24 Try.underlying32 hi0 hz0 hz1 hz2 rfl (by decide) v n hs hown ad ns.length C ns (by omega) (hcell ad rfl) ho1 (by simp only [maxLen]; omega) (by omega) hbase
    unfold Oper.wp execOp
    simp only [ho, resolve, invoke, builtin, Sem.run_bind, Sem.run_pure, Result.andThen_ok, List.map_toArray, List.map_cons, List.map_nil, hs0, hx, hrun]
    exact hK _ _ (h v' w' k2 k3 k5)
/-- append of one header that lies in a block of its own. -/
theorem appH1 {w : World} {ops : Array Oper} {rest : List Oper} {o : Oper} {a : Act} {Q : Exit → Act → World → Prop} (hgd : o.guard = none) (s x : Operand)
    (ho : o.op = .call { callee := .builtin .append, args := #[s, x], argTypes := #[32, 32] })
    (base : Nat) (v : Value) (n : Nat) (hs : List Value) (hs0 : a.eval s = v) (hown : w.ownsRow base 34 1 v n hs)
    (gt : Nat) (u : Value) (hx : a.eval x = .slice (some ⟨gt, 0, none⟩) 1 1) (hg : w.cell? ⟨gt, 0, none⟩ = some u) (ho1 : u.oneCell' = true)
    (hn : (n + 1) * 24 ≤ 140737488355328) (hbase : base ≤ w.heap.size)
    (h : ∀ v' w', w'.ownsRow base 34 1 v' (n + 1) (hs ++ [u]) → w.grownBy w' v.ownBlock → (v'.ownBlock = v.ownBlock ∨ v'.ownBlock = some w.heap.size) → wpList Try.prog ops Q rest (a.put o.dst v') w') : wpList Try.prog ops Q (o :: rest) a w :=
  appH hgd s x ho base v n hs hs0 hown (some ⟨gt, 0, none⟩) 1 1 [u] rfl hx (fun ad e j u' hu => by
    injection e with e
    subst e
    rw [Addr.add_lit]
    cases j with
    | zero => simp at hu; subst hu; exact hg
    | succ j => simp at hu) (fun e => by cases e) (by simpa using ho1) hn hbase h

end Go.Proofs.Ytiomelogggilgaa
end

section
/- Walk: relation's filter, for any function that answers by a row. -/
namespace Go.Proofs.Ytiomelogggilgaa
open Go.RowKit Go.Sort

theorem grown_keepP {P : Nat → Prop} {w w' : World} {cb B : Nat} (hg : w.grownBy w' (some cb)) (hB : B ≤ w.heap.size) (hP : ∀ b, P b → b ≠ cb) : ∀ p : Addr, p.block < B → P p.block → w'.cell? p = w.cell? p := fun p hp hne => grown_cell hg (by omega) (fun e => by injection e with e; exact hP _ hne e)
/-- A relation in memory, in blocks that P allows. -/
def RelP (P : Nat → Prop) (w' : World) (n : Int) (X : List RL.R) (v : Value) : Prop := ∃ A C, v = .agg #[.int .i64 n, .slice A X.length C] ∧ X.length ≤ C ∧ C ≤ 9223372036854775807 ∧ SlRsP P w'.heap.size w' A X
theorem RelP.is {P : Nat → Prop} {w' : World} {n : Int} {X : List RL.R} {v : Value} (h : RelP P w' n X v) : RelIs w' n X v := by
  obtain ⟨A, C, h1, h2, h3, h4⟩ := h
  exact ⟨A, C, h1, h2, h3, h4.sl⟩

theorem HR.sl {P : Nat → Prop} {B : Nat} {w : World} {A : Option Addr} {n C : Nat} {y : RL.R} (h : HR P B w (.slice A n C) y) : SlR B w A y := by
  obtain ⟨A', C', e, -, -, h4, -⟩ := h
  injection e with e1 _ _
  subst e1
  exact h4

set_option maxHeartbeats 2000000 in
set_option maxRecDepth 100000 in
theorem rlFilter_P (n : Int) (RA : Option Addr) (RC : Nat) (X : List RL.R) (F : Nat) (caps : Array Value) (p : RL.R → Bool) (P : Nat → Prop) (cb : Nat) (I : Nat → World → Prop) (w : World)
    (hen : ∀ args w, (callFunc F args).run Try.prog w = .ok (.enter F args) w)
    (hX : SlRsP P w.heap.size w RA X) (hXl : X.length ≤ 100000) (hPc : ∀ b, P b → b ≠ cb) (hPn : ∀ b, w.heap.size ≤ b → P b) (hcb : cb < w.heap.size) (hI0 : I 0 w)
    (hIk : ∀ k W W', I k W → Below w.heap.size W W' → w.heap.size ≤ W.heap.size → I k W')
    (hF : ∀ k (hk : k < X.length) W A' C', I k W → w.grownBy W (some cb) → HR P w.heap.size W (.slice A' X[k].length C') X[k] → Calls Try.prog F (#[.slice A' X[k].length C'] ++ caps) W fun e W' => e = .returned (.bool (p X[k])) ∧ I (k + 1) W' ∧ W.grownBy W' (some cb)) :
    Calls Try.prog 49 #[.agg #[.int .i64 n, .slice RA X.length RC], .func (.func F) #[] caps] w fun e w' => ∃ v, e = .returned v ∧ RelP P w' n (X.filter p) v ∧ w.grownBy w' (some cb) := by
  have HX := Lib.hid hX
  have HF := Lib.hid hF
  have HIK := Lib.hid hIk
  have HI0 := Lib.hid hI0
  have HPC := Lib.hid hPc
  have HPN := Lib.hid hPn
  clear hX hF hIk hI0 hPc hPn
  go_enter Try.func49, Try.ntmps49
  have q1 := (Row.new w 48 [.int .i64 n, .slice RA X.length RC]).alloc (.cells #[.int .i64 0, .slice none 0 0] 48)
  have q2 := Row.new (w.alloc (.cells #[.int .i64 n, .slice RA X.length RC] 48)) 48 [.int .i64 0, .slice none 0 0]
  simp only [World.size_alloc] at q2
  have HQ1 := Lib.hid q1
  have HQ2 := Lib.hid q2
  have HE0 := Lib.hid (((Ext.refl w).alloc (.cells #[.int .i64 n, .slice RA X.length RC] 48)).alloc (.cells #[.int .i64 0, .slice none 0 0] 48))
  clear q1 q2
  go_wp2
  generalize (w.alloc (.cells #[.int .i64 n, .slice RA X.length RC] 48)).alloc (.cells #[.int .i64 0, .slice none 0 0] 48) = W0 at *
  go_loopw [5, 10] (fun v i wr => ∃ (k : Nat) (hs : List Value), k ≤ X.length ∧ i = .int .i64 k ∧ wr.ownsRow (w.heap.size + 2) 34 1 v ((X.take k).filter p).length hs ∧ Hdrs P w.heap.size wr hs ((X.take k).filter p) ∧ I k wr ∧ Row wr w.heap.size 48 [.int .i64 n, .slice RA X.length RC] ∧ Row wr (w.heap.size + 1) 48 [.int .i64 0, .slice none 0 0] ∧ w.grownBy wr (some cb)) (fun _ i _ => X.length - (intOf i).toNat)
  case atStart => exact ⟨0, [], Nat.zero_le _, rfl, own_nil _ _ _ _, Hdrs.nil, HIK.out 0 w W0 HI0.out HE0.out.below (Nat.le_refl _), HQ1.out, HQ2.out, HE0.out.grown _⟩
  case round =>
    obtain ⟨k, hs, hka, rfl, hown, hH, hI, hr1, hr2, hg⟩ := hrel
    have HO := Lib.hid hown
    have HH := Lib.hid hH
    have HI := Lib.hid hI
    have HR1 := Lib.hid hr1
    have HR2 := Lib.hid hr2
    have HG := Lib.hid hg
    have hzz := hg.size
    have hz1 := hr1.lt
    have hz2 := hr2.lt
    have hfl := filt_take_le p X k
    clear hown hH hI hr2 HI0 HQ1 HQ2 HE0
    by_cases h1 : k < X.length
    · obtain ⟨b, o, A1, C1, rfl, hb, hbc, c1, hr⟩ := (HX.out.keep (grown_keepP hg (Nat.le_refl _) HPC.out)).at_ h1
      have HC := Lib.hid (HF.out k h1 wr A1 C1 HI.out hg hr)
      have HN := Lib.hid (filt_snoc p X k h1)
      have n1 : wr.cell? ⟨w.heap.size, 1, none⟩ = some (.slice (some ⟨b, o, none⟩) X.length RC) := hr1.cell 1
      have HHR := Lib.hid hr
      clear hr hr1 hg
      generalize X[k] = x at c1 HC HN HHR
      generalize (X.take k).filter p = Fk at HO HN hfl HH
      go_wp2_with fail
      refine HC.out.mono ?_
      rintro e w1 ⟨rfl, hI1, hg1⟩
      have c1' := (grown_cell hg1 (p := ⟨b, o + k, none⟩) (show b < wr.heap.size by omega) (fun e => by injection e with e; exact HPC.out b hbc e)).trans c1
      have HR11 := Lib.hid (HR1.out.grown hg1 (fun e => by injection e with e; omega))
      have HR21 := Lib.hid (HR2.out.grown hg1 (fun e => by injection e with e; omega))
      have n1' : w1.cell? ⟨w.heap.size, 1, none⟩ = some (.slice (some ⟨b, o, none⟩) X.length RC) := HR11.out.cell 1
      have HO1 := Lib.hid (own_grown HO.out hg1 (fun g hk e => by have := own_base HO.out hk; injection e with e; omega))
      have HH1 := Lib.hid (HH.out.keep (grown_keepP hg1 hzz HPC.out))
      have HHR1 := Lib.hid (HHR.out.keep (grown_keepP hg1 hzz HPC.out))
      have HG1 := Lib.hid (grown_trans HG.out hg1)
      have HI1 := Lib.hid hI1
      have hw1 := hg1.size
      clear hI1 hg1 HC c1 n1 HO HH HI HHR
      cases hp : p x
      · have HN2 := Lib.hid (HN.out.trans (by simp [hp] : _ = Fk))
        clear HN hp
        go_wp2
        go_roundw
        case rel => exact ⟨k + 1, hs, by omega, by go_num, by rw [HN2.out]; exact HO1.out, by rw [HN2.out]; exact HH1.out, HI1.out, HR11.out, HR21.out, HG1.out⟩
        case measure => simp [intOf]; omega
      · have HN2 := Lib.hid (HN.out.trans (by simp [hp] : _ = Fk ++ [x]))
        have HO2 := Lib.hid (HO1.out.alloc (.cells #[.slice A1 x.length C1] 34))
        clear HN hp
        go_wp2_with (at_builtin; refine appH1 rfl (.tmp 20) (.tmp 26) rfl (w.heap.size + 2) u5 Fk.length hs rfl HO2.out w1.heap.size (.slice A1 x.length C1) rfl (by go_simp) rfl (by omega) (by simp; omega) ?_
                     intro v4 w4 hown4 hg4 _
                     have HO4 := Lib.hid hown4
                     have HB4 := Lib.hid (Below.then ((Below.refl (w.heap.size + 2) w1).alloc (show w.heap.size + 2 ≤ w1.heap.size by omega) (.cells #[.slice A1 x.length C1] 34)) (app_grown (B := w.heap.size + 2) hg4 (fun g hk => own_base HO2.out hk) (by simp; omega)) (Nat.le_refl _))
                     clear hown4 hg4)
        go_roundw
        case rel =>
          have hb4 := HB4.out
          have hk4 : ∀ p : Addr, p.block < w.heap.size → P p.block → w4.cell? p = w1.cell? p := fun p hp _ => hb4.cell (by omega)
          refine ⟨k + 1, hs ++ [.slice A1 x.length C1], by omega, by go_num, by rw [HN2.out, List.length_append]; exact HO4.out, ?_, HIK.out _ w1 w4 HI1.out (hb4.mono (by omega)) (by omega), HR11.out.below hb4 (by omega), HR21.out.below hb4 (by omega), grown_below HG1.out hb4 (by omega)⟩
          rw [HN2.out]
          exact (HH1.out.keep hk4).append (Hdrs.one (HHR1.out.keep hk4))
        case measure => simp [intOf]; omega
    · have HT := Lib.hid (List.take_of_length_le (show X.length ≤ k by omega))
      rw [HT.out] at HO HH hfl
      obtain ⟨A5, C5, rfl, hc5, hm5, hs5⟩ := own_slrs (P := fun b => P b ∧ b ≠ w.heap.size + 1) HO.out (HH.out.weak (fun b hb h => ⟨h, by omega⟩)) hzz (fun b hb => ⟨HPN.out b (by omega), by omega⟩)
      have c0 : wr.cell? ⟨w.heap.size + 1, 0, none⟩ = some (.int .i64 0) := HR2.out.cell 0
      have c1 : wr.cell? ⟨w.heap.size + 1, 1, none⟩ = some (.slice none 0 0) := HR2.out.cell 1
      have f0 := HR2.out.frozen 0
      have f1 := HR2.out.frozen 1
      have n0 : wr.cell? ⟨w.heap.size, 0, none⟩ = some (.int .i64 n) := hr1.cell 0
      obtain ⟨Y, hY⟩ : ∃ Y, Y = X.filter p := ⟨_, rfl⟩
      have HYE := Lib.hid hY
      rw [← hY] at hc5 hs5
      rw [← hY]
      clear hY HO HH hfl HT
      have z0 : (wr.setCell ⟨w.heap.size + 1, 0, none⟩ (.int .i64 n)).cell? ⟨w.heap.size + 1, 0, none⟩ = some (.int .i64 n) := World.cell?_setCell_same _ _ _ c0
      have z1 : ((wr.setCell ⟨w.heap.size + 1, 0, none⟩ (.int .i64 n)).setCell ⟨w.heap.size + 1, 1, none⟩ (.slice A5 Y.length C5)).cell? ⟨w.heap.size + 1, 1, none⟩ = some (.slice A5 Y.length C5) := World.cell?_setCell_same _ _ _ ((World.cell?_setCell_other _ _ _ _ (by simp)).trans c1)
      have Z0 := Lib.hid z0
      have Z1 := Lib.hid z1
      have HS5 : Hid (SlRsP P wr.heap.size ((wr.setCell ⟨w.heap.size + 1, 0, none⟩ (.int .i64 n)).setCell ⟨w.heap.size + 1, 1, none⟩ (.slice A5 Y.length C5)) A5 Y) := (hs5.keep (fun p hp hne => far_cell (p := ⟨w.heap.size + 1, 1, none⟩) (fun e => hne.2 e.symm) (far_cell (p := ⟨w.heap.size + 1, 0, none⟩) (fun e => hne.2 e.symm) rfl))).weak (fun b _ h => h.1)
      clear hs5 z0 z1 hr1 hg HR1 HR2
      go_wp2
      refine bodyPost_ret (v := .agg #[.int .i64 n, .slice A5 Y.length C5]) (by simp [results, Try.results49, go_sem, Z0.out, Z1.out]) rfl ⟨_, rfl, by rw [← HYE.out]; exact ⟨A5, C5, rfl, hc5, hm5, by simpa using HS5.out⟩, ?_⟩
      exact grown_below HG.out (((Below.refl w.heap.size wr).setCell (p := ⟨w.heap.size + 1, 0, none⟩) (show w.heap.size ≤ w.heap.size + 1 by omega) _).setCell (p := ⟨w.heap.size + 1, 1, none⟩) (show w.heap.size ≤ w.heap.size + 1 by omega) _) (Nat.le_refl _)

theorem rlFilter_any (n : Int) (RA : Option Addr) (RC : Nat) (X : List RL.R) (F : Nat) (caps : Array Value) (p : RL.R → Bool) (P : Nat → Prop) (cb : Nat) (I : Nat → World → Prop) (w : World)
    (hen : ∀ args w, (callFunc F args).run Try.prog w = .ok (.enter F args) w)
    (hX : SlRsP P w.heap.size w RA X) (hXl : X.length ≤ 100000) (hPc : ∀ b, P b → b ≠ cb) (hPn : ∀ b, w.heap.size ≤ b → P b) (hcb : cb < w.heap.size) (hI0 : I 0 w)
    (hIk : ∀ k W W', I k W → Below w.heap.size W W' → w.heap.size ≤ W.heap.size → I k W')
    (hF : ∀ k (hk : k < X.length) W A' C', I k W → w.grownBy W (some cb) → SlR W.heap.size W A' X[k] → Calls Try.prog F (#[.slice A' X[k].length C'] ++ caps) W fun e W' => e = .returned (.bool (p X[k])) ∧ I (k + 1) W' ∧ W.grownBy W' (some cb)) :
    Calls Try.prog 49 #[.agg #[.int .i64 n, .slice RA X.length RC], .func (.func F) #[] caps] w fun e w' => ∃ v, e = .returned v ∧ RelP P w' n (X.filter p) v ∧ w.grownBy w' (some cb) :=
  rlFilter_P n RA RC X F caps p P cb I w hen hX hXl hPc hPn hcb hI0 hIk (fun k hk W A' C' hI hg hr => hF k hk W A' C' hI hg (hr.sl.more hg.size))

end Go.Proofs.Ytiomelogggilgaa
end

section
/- Small words: blocks known whole and lists of rows, in later worlds. -/
namespace Go.Proofs.Ytiomelogggilgaa
open Go.RowKit Go.Sort

theorem Row.up {W W' : World} {g : Nat} {e : TypeId} {xs : List Value} (h : Row W g e xs) (hb : Below W.heap.size W W') : Row W' g e xs := h.below hb h.lt
theorem Row.set2 {w : World} {g : Nat} {e : TypeId} {a0 b0 : Value} (h : Row w g e [a0, b0]) (a b : Value) : Row ((w.setCell ⟨g, 0, none⟩ a).setCell ⟨g, 1, none⟩ b) g e [a, b] := (h.set 0 a).set 1 b
theorem map_snoc {α β : Type} (f : α → β) (l : List α) (k : Nat) (h : k < l.length) : (l.take (k + 1)).map f = (l.take k).map f ++ [f l[k]] := by
  rw [List.take_succ_eq_append_getElem h, List.map_append]; rfl
theorem SlRsP.upB {P : Nat → Prop} {w w' : World} {A : Option Addr} {X : List RL.R} (h : SlRsP P w.heap.size w A X) (hb : Below w.heap.size w w') : SlRsP P w'.heap.size w' A X := (h.keep (fun _p hp _ => hb.cell hp)).more hb.size
theorem HR.upB {P : Nat → Prop} {w w' : World} {u : Value} {y : RL.R} (h : HR P w.heap.size w u y) (hb : Below w.heap.size w w') : HR P w'.heap.size w' u y := (h.keep (fun _p hp _ => hb.cell hp)).more hb.size
theorem SlRsP.below {P : Nat → Prop} {B C : Nat} {w w' : World} {A : Option Addr} {X : List RL.R} (h : SlRsP P B w A X) (hb : Below C w w') (hC : B ≤ C) : SlRsP P B w' A X := h.keep (fun p hp _ => hb.cell (by omega))
theorem HR.below {P : Nat → Prop} {B C : Nat} {w w' : World} {u : Value} {y : RL.R} (h : HR P B w u y) (hb : Below C w w') (hC : B ≤ C) : HR P B w' u y := h.keep (fun p hp _ => hb.cell (by omega))

end Go.Proofs.Ytiomelogggilgaa
end

section
/- Walk: the laws' own made. -/
namespace Go.Proofs.Ytiomelogggilgaa
open Go.RowKit Go.Sort

/-- The rows that a relation of arity n accepts. -/
def validR (n : Int) (X : List RL.R) : List RL.R := X.filter fun x => decide (wrongF n x = 0)
theorem validR_snoc (n : Int) (X : List RL.R) (k : Nat) (h : k < X.length) : validR n (X.take (k + 1)) = validR n (X.take k) ++ (if wrongF n X[k] = 0 then [X[k]] else []) := by
  unfold validR
  rw [List.take_succ_eq_append_getElem h, List.filter_append]
  by_cases hw : wrongF n X[k] = 0 <;> simp [hw]
theorem validR_err (n : Int) (X : List RL.R) : errF n (validR n X) = 0 := errF_zero.2 fun x hx => by
  unfold validR at hx
  rw [List.mem_filter] at hx
  simpa using hx.2
theorem validR_sub (n : Int) (X : List RL.R) : ∀ x ∈ validR n X, x ∈ X := fun _x hx => (List.mem_filter.1 hx).1
theorem validR_length (n : Int) (X : List RL.R) : (validR n X).length ≤ X.length := List.length_filter_le _ _

theorem RelIs.upB {w w' : World} {n : Int} {X : List RL.R} {v : Value} (h : RelIs w n X v) (hb : Below w.heap.size w w') : RelIs w' n X v := by
  obtain ⟨A, C, h1, h2, h3, h4⟩ := h
  exact ⟨A, C, h1, h2, h3, h4.upB hb⟩

theorem setCell_id {w : World} {a : Addr} {v : Value} (h : w.cell? a = some v) : w.setCell a v = w := by
  unfold World.cell? at h
  split at h
  · rename_i c t f hc
    split at h
    · cases h
    · rename_i hs
      have hcs : (if a.spot.isSome then c else c.setIfInBounds a.off v) = c := by
        rw [if_neg hs]
        apply Array.ext_getElem?
        intro j
        rw [Array.getElem?_setIfInBounds]
        split
        · rename_i e2; subst e2; split
          · rw [h]
          · rename_i h3; rw [Array.getElem?_eq_none (by omega)]
        · rfl
      have hh : (w.setCell a v).heap = w.heap := by
        apply Array.ext_getElem?
        intro i
        unfold World.setCell
        rw [Array.getElem?_modify]
        split
        · rename_i e
          subst e
          rw [hc]
          rw [if_neg hs] at hcs
          simp [hcs]
        · rfl
      have : w.setCell a v = { w with heap := (w.setCell a v).heap } := rfl
      rw [this, hh]
  · cases h

/-- A row of three cells and more does not lie in a block of two. -/
theorem SlR.not_pair {w : World} {A : Option Addr} {x : RL.R} {rb : Nat} {E : TypeId} {u0 u1 : Value} (h : SlR w.heap.size w A x) (hr : Row w rb E [u0, u1]) : x ≠ [] → ∀ ad, A = some ad → ad.block ≠ rb := fun hx ad e e2 => by
  cases x with
  | nil => exact hx rfl
  | cons v y =>
    obtain ⟨b, o, e', hb, _, _, c3⟩ := slR_at h (i := 0) (by simp)
    rw [e] at e'
    injection e' with e'
    subst e'
    simp only at e2
    subst e2
    rw [hr.cell] at c3
    simp at c3
theorem OwnRs.far {w : World} {B : Nat} {E : TypeId} {v : Value} {X : List RL.R} {rb i : Nat} {T : TypeId} {u0 u1 : Value} (h : OwnRs w B E v X) (hr : Row w rb T [u0, u1]) (hB : rb < B) (u : Value) : OwnRs (w.setCell ⟨rb, i, none⟩ u) B E v X := by
  have hbase := h.base
  obtain ⟨hs, h1, h2⟩ := h
  refine ⟨hs, own_far h1 (p := ⟨rb, i, none⟩) (fun e => by have := hbase _ e; simp only at this; omega) u, fun j hj => ?_⟩
  obtain ⟨A', C', g1, g2, g3, g4, g5⟩ := h2 j hj
  exact ⟨A', C', g1, g2, g3, g4.far (p := ⟨rb, i, none⟩) u (g4.not_pair hr), g5⟩

end Go.Proofs.Ytiomelogggilgaa
end

section
/- Walk: row.Project. -/
namespace Go.Proofs.Ytiomelogggilgaa
open Go.RowKit Go.Sort

def zV : RL.V := ⟨0, 0, ⟨#[]⟩⟩
/-- n zero values, as a new array holds them. (A plain definition: the walk does not look into it.) -/
def zerosV (n : Nat) : Array Value := (rcells (List.replicate n zV)).toArray
theorem rcells_set (L : RL.R) (k : Nat) (v : RL.V) (h : k < L.length) : rcells (L.set k v) = (((rcells L).set (k * 3) (.int .i64 v.kind)).set (k * 3 + 1) (.int .i64 v.int)).set (k * 3 + 2) (.string v.str) := by
  induction L generalizing k with
  | nil => simp at h
  | cons u L ih =>
    cases k with
    | zero => simp [rcells_cons, vcells]
    | succ k =>
      rw [List.set_cons_succ, rcells_cons, rcells_cons, ih k (by simpa using h)]
      rw [show (k + 1) * 3 = k * 3 + 1 + 1 + 1 by omega]
      simp [vcells]
theorem makeVals (n : Nat) (hn : n ≤ 1000000) (w : World) : (Instr.makeSlice 34 (.int .i64 (n : Int)) (.int .i64 (n : Int))).run Try.prog w = .ok (.slice (some ⟨w.heap.size, 0, none⟩) n n) (w.alloc (.cells (zerosV n) 41)) := by
  obtain ⟨i0, hi0, hz0, hz1, hz2⟩ := info_parts valInfo
  have := run_make (P := Try.prog) w 34 41 i0 _ Try.underlying34 hi0 hz0 .i64 .i64 n n (by omega) (by omega) (by rw [hz2]; omega) (by omega)
  rw [this, hz1]
  simp only [Int.toNat_natCast]
  have e : madeCells (Value.agg #[.int .i64 0, .int .i64 0, .string ⟨#[]⟩]).cells (n * 3) = zerosV n := by
    unfold madeCells zerosV
    apply Array.ext
    · simp [rcells_length]
    · intro i h1 h2
      have hi : i / 3 < n := by simp [rcells_length] at h2; omega
      obtain ⟨g1, g2, g3⟩ := rcells_get (List.replicate n zV) (i / 3) zV (by rw [List.getElem?_replicate, if_pos hi])
      have hm := Nat.div_add_mod i 3
      simp only [List.getElem_toArray]
      have h3 : i % 3 = 0 ∨ i % 3 = 1 ∨ i % 3 = 2 := by omega
      rcases h3 with h3 | h3 | h3
      · rw [show i / 3 * 3 = i by omega] at g1
        rw [List.getElem?_eq_some_iff] at g1
        obtain ⟨_, g1⟩ := g1
        rw [g1]
        simp [h3, Value.cells, zV]
      · rw [show i / 3 * 3 + 1 = i by omega] at g2
        rw [List.getElem?_eq_some_iff] at g2
        obtain ⟨_, g2⟩ := g2
        rw [g2]
        simp [h3, Value.cells, zV]
      · rw [show i / 3 * 3 + 2 = i by omega] at g3
        rw [List.getElem?_eq_some_iff] at g3
        obtain ⟨_, g3⟩ := g3
        rw [g3]
        simp [h3, Value.cells, zV]
  rw [e]

/-- The given columns of a row. -/
def projF (x : RL.R) (cs : List Int) : RL.R := cs.map fun c => x.getD c.toNat zV
theorem projF_length (x : RL.R) (cs : List Int) : (projF x cs).length = cs.length := by simp [projF]

theorem getD_at {x : RL.R} {c : Nat} (h : c < x.length) : x.getD (c : Int).toNat zV = x[c] := by simp [List.getD, h]

/-- The first k columns are laid. -/
def halfP (x : RL.R) (cs : List Int) (k : Nat) : RL.R := (projF x cs).take k ++ List.replicate (cs.length - k) zV
theorem halfP_length (x : RL.R) (cs : List Int) (k : Nat) (h : k ≤ cs.length) : (halfP x cs k).length = cs.length := by simp [halfP, projF_length]; omega
theorem halfP_set (x : RL.R) (cs : List Int) (k : Nat) (h : k < cs.length) : (halfP x cs k).set k (projF x cs)[k]! = halfP x cs (k + 1) := by
  have hk : k < (projF x cs).length := by rw [projF_length]; exact h
  unfold halfP
  rw [List.set_append_right _ _ (by simp; omega), List.take_succ_eq_append_getElem hk, List.append_assoc]
  congr 1
  have e : k - ((projF x cs).take k).length = 0 := by simp; omega
  rw [e, show cs.length - k = (cs.length - (k + 1)) + 1 by omega, List.replicate_succ]
  simp [hk]

set_option maxHeartbeats 2000000 in
set_option maxRecDepth 100000 in
theorem rwProject_ok (XA CA : Option Addr) (XC CC : Nat) (x : RL.R) (cs : List Int) (w : World) (hx : SlR w.heap.size w XA x) (hc : SlI .i64 w.heap.size w CA cs) (_hxl : x.length ≤ 1000000) (hcl : cs.length ≤ 1000000) (hv : ∀ c ∈ cs, 0 ≤ c ∧ c < x.length) :
    Calls Try.prog 86 #[.slice XA x.length XC, .slice CA cs.length CC] w fun e w' => e = .returned (.tuple #[.slice (some ⟨w.heap.size, 0, none⟩) cs.length cs.length, .int .i64 0]) ∧ Row w' w.heap.size 41 (rcells (projF x cs)) ∧ Below w.heap.size w w' := by
  have HX := Lib.hid hx
  have HC := Lib.hid hc
  have HV := Lib.hid hv
  have hmk := makeVals cs.length hcl
  clear hx hc hv
  go_enter Try.func86, Try.ntmps86
  go_wp2
  go_loop [11] (fun i => ∃ k : Nat, k ≤ cs.length ∧ i = .int .i64 k) (fun i => cs.length - (intOf i).toNat)
  case atStart => exact ⟨0, Nat.zero_le _, rfl⟩
  case round =>
    obtain ⟨k, hk, rfl⟩ := hrel
    by_cases h1 : k < cs.length
    · obtain ⟨b, o, rfl, hb, c1⟩ := slI_at HC.out h1
      obtain ⟨v1, v2⟩ := HV.out cs[k] (List.getElem_mem h1)
      generalize cs[k] = c at c1 v1 v2
      have n1 : ¬ c < 0 := by omega
      go_wp2
      go_round
      case rel => exact ⟨k + 1, by omega, by go_num⟩
      case measure => simp [intOf]; omega
    · go_wp2
      clear hmk
      have HR0 : Hid (Row (w.alloc (.cells (zerosV cs.length) 41)) w.heap.size 41 (rcells (halfP x cs 0))) := by
        show Row _ _ _ _
        have h := heap_alloc_new w (.cells (zerosV cs.length) 41)
        unfold Row halfP
        rw [h]
        simp [zerosV]
      go_loopw [34] (fun i wr => ∃ k : Nat, k ≤ cs.length ∧ i = .int .i64 k ∧ Row wr w.heap.size 41 (rcells (halfP x cs k)) ∧ Below w.heap.size w wr) (fun i _ => cs.length - (intOf i).toNat)
      case atStart => exact ⟨0, Nat.zero_le _, rfl, HR0.out, (Below.refl _ _).alloc (Nat.le_refl _) _⟩
      case round =>
        obtain ⟨j, hj, rfl, hrow, hbel⟩ := hrel
        have HR := Lib.hid hrow
        have HB := Lib.hid hbel
        by_cases h2 : j < cs.length
        · obtain ⟨b, o, rfl, hb, c1⟩ := slI_at HC.out h2
          obtain ⟨v1, v2⟩ := HV.out cs[j] (List.getElem_mem h2)
          have hp : (projF x cs)[j]! = x.getD cs[j].toNat zV := by
            rw [getElem!_pos _ _ (by rw [projF_length]; exact h2)]; simp [projF]
          have d1 := (hbel.cell (p := ⟨b, o + j, none⟩) hb).trans c1
          have HS := Lib.hid (halfP_set x cs j h2)
          have hlen := halfP_length x cs j (by omega)
          generalize cs[j] = c at c1 v1 v2 hp d1
          obtain ⟨q, rfl⟩ := Int.eq_ofNat_of_zero_le v1
          have hq : q < x.length := by omega
          rw [getD_at hq] at hp
          obtain ⟨b2, o2, rfl, hb2, e1, e2, e3⟩ := slR_at HX.out hq
          have g1 := (hbel.cell (p := ⟨b2, o2 + q * 3, none⟩) hb2).trans e1
          have g2 := (hbel.cell (p := ⟨b2, o2 + q * 3 + 1, none⟩) hb2).trans e2
          have g3 := (hbel.cell (p := ⟨b2, o2 + q * 3 + 2, none⟩) hb2).trans e3
          have hset := rcells_set (halfP x cs j) j x[q] (by omega)
          rw [hp] at HS
          rw [HS.out] at hset
          clear hp HS
          generalize hxq : x[q] = u at g1 g2 g3 hset
          have HSET := Lib.hid hset
          have hl3 : (rcells (halfP x cs j)).length = cs.length * 3 := by rw [rcells_length, hlen]
          obtain ⟨t0, r0⟩ : ∃ t, wr.cell? ⟨w.heap.size, j * 3, none⟩ = some t := ⟨_, hrow.cell_ (by omega)⟩
          obtain ⟨t1, r1⟩ : ∃ t, wr.cell? ⟨w.heap.size, j * 3 + 1, none⟩ = some t := ⟨_, hrow.cell_ (by omega)⟩
          obtain ⟨t2, r2⟩ : ∃ t, wr.cell? ⟨w.heap.size, j * 3 + 2, none⟩ = some t := ⟨_, hrow.cell_ (by omega)⟩
          have z0 := hrow.frozen (j * 3)
          have z1 := hrow.frozen (j * 3 + 1)
          have z2 := hrow.frozen (j * 3 + 2)
          have hzz := hbel.size
          have hzr := hrow.lt
          have HNEW := Lib.hid (((hrow.set (j * 3) (.int .i64 u.kind)).set (j * 3 + 1) (.int .i64 u.int)).set (j * 3 + 2) (.string u.str))
          have HBN := Lib.hid (((hbel.setCell (p := ⟨w.heap.size, j * 3, none⟩) (Nat.le_refl _) (.int .i64 u.kind)).setCell (p := ⟨w.heap.size, j * 3 + 1, none⟩) (Nat.le_refl _) (.int .i64 u.int)).setCell (p := ⟨w.heap.size, j * 3 + 2, none⟩) (Nat.le_refl _) (.string u.str))
          rw [← HSET.out] at HNEW
          clear hset hxq hrow hbel hlen hl3 c1 e1 e2 e3 HR HB HR0 HSET
          go_wp2
          go_roundw
          case rel => exact ⟨j + 1, by omega, by go_num, HNEW.out, HBN.out⟩
          case measure => simp [intOf]; omega
        · have HE : Hid (halfP x cs j = projF x cs) := by
            show _ = _
            unfold halfP
            rw [List.take_of_length_le (by rw [projF_length]; omega), show cs.length - j = 0 by omega]; simp
          rw [HE.out] at HR
          go_wp2
          go_ret2
          exact ⟨rfl, HR.out, hbel⟩

end Go.Proofs.Ytiomelogggilgaa
end

section
/- Walks: relation's Select and SelectSame. -/
namespace Go.Proofs.Ytiomelogggilgaa
open Go.RowKit Go.Sort

theorem cell_lt {w : World} {b o : Nat} {v : Value} (h : w.cell? ⟨b, o, none⟩ = some v) : b < w.heap.size := by
  rcases Nat.lt_or_ge b w.heap.size with hlt | hge
  · exact hlt
  · simp [World.cell?, Array.getElem?_eq_none hge] at h

/-- What Select answers as its error. -/
def selErr (n col op : Int) (v : RL.V) : Int := if 0 ≤ col ∧ col < n then (if op < 0 ∨ 5 < op then 2 else if RL.validV v = true then 0 else 4) else 3
/-- The rows that a selection keeps. -/
def selF (X : List RL.R) (c op : Int) (v : RL.V) : List RL.R := X.filter fun x => RL.holdsF op (RL.cmpV (x.getD c.toNat zV) v)
/-- What relation's Select leaves. -/
def SelPost (P : Nat → Prop) (w : World) (n : Int) (X : List RL.R) (col op : Int) (v : RL.V) (e : Ending) (w' : World) : Prop :=
  ∃ rv, e = .returned (.tuple #[rv, .int .i64 (selErr n col op v)]) ∧ (selErr n col op v ≠ 0 → rv = .agg #[.int .i64 0, .slice none 0 0]) ∧ (selErr n col op v = 0 → RelP P w' n (selF X col op v) rv) ∧ Below w.heap.size w w'

end Go.Proofs.Ytiomelogggilgaa
end

section
/- Plain: membership in an ascending list whose first rows are known to be smaller; merging two ascending lists. -/
namespace Go.Proofs.Ytiomelogggilgaa.RL

theorem mem_take_drop {Y : List R} (j : Nat) (x : R) : x ∈ Y ↔ x ∈ Y.take j ∨ x ∈ Y.drop j := by
  conv => lhs; rw [← List.take_append_drop j Y]
  exact List.mem_append
theorem mem_drop_head {Y : List R} (h : SS Y) {x : R} {j : Nat} (h1 : ∀ y ∈ Y.take j, cmpR y x < 0) (hj : j < Y.length) (h2 : 0 ≤ cmpR Y[j] x) : decide (x ∈ Y) = decide (Y[j] = x) := by
  rw [decide_eq_decide]
  constructor
  · intro hx
    rcases (mem_take_drop j x).1 hx with h3 | h3
    · have := h1 x h3
      rw [tot_cmpR.self] at this
      omega
    · obtain ⟨i, hi, rfl⟩ := List.getElem_of_mem h3
      simp only [List.length_drop] at hi
      rw [List.getElem_drop] at h2 ⊢
      rcases Nat.eq_zero_or_pos i with h0 | h0
      · subst h0; rfl
      · have := h.get (show j < j + i by omega) (by omega)
        omega
  · rintro rfl
    exact List.getElem_mem hj
theorem mem_drop_none {Y : List R} {x : R} {j : Nat} (h1 : ∀ y ∈ Y.take j, cmpR y x < 0) (hj : Y.length ≤ j) : decide (x ∈ Y) = false := by
  simp only [decide_eq_false_iff_not]
  intro hx
  rw [List.take_of_length_le hj] at h1
  have := h1 x hx
  rw [tot_cmpR.self] at this
  omega
theorem take_snoc_lt {Y : List R} {x : R} {j : Nat} (h1 : ∀ y ∈ Y.take j, cmpR y x < 0) (hj : j < Y.length) (h2 : cmpR Y[j] x < 0) : ∀ y ∈ Y.take (j + 1), cmpR y x < 0 := fun y hy => by
  rw [List.take_succ_eq_append_getElem hj, List.mem_append] at hy
  rcases hy with hy | hy
  · exact h1 y hy
  · rw [List.mem_singleton.1 hy]; exact h2
theorem below_next {X : List R} (h : SS X) {k : Nat} (hk : k < X.length) {y : R} (hy : cmpR y X[k] < 0) : ∀ x ∈ X.drop (k + 1), cmpR y x < 0 := fun x hx => by
  obtain ⟨i, hi, rfl⟩ := List.getElem_of_mem hx
  simp only [List.length_drop] at hi
  rw [List.getElem_drop]
  exact tot_cmpR.tr _ _ _ hy (h.get (by omega) (by omega))

/-- A merge under way: L holds the first k rows of X and the first j rows of Y, and all that is left is greater. -/
structure Merge (X Y : List R) (k j : Nat) (L : List R) : Prop where
  ss : SS L
  mem : ∀ r, r ∈ L ↔ r ∈ X.take k ∨ r ∈ Y.take j
  ltX : ∀ r ∈ L, ∀ s ∈ X.drop k, cmpR r s < 0
  ltY : ∀ r ∈ L, ∀ s ∈ Y.drop j, cmpR r s < 0
  kle : k ≤ X.length
  jle : j ≤ Y.length
  len : L.length ≤ k + j

theorem Merge.start (X Y : List R) : Merge X Y 0 0 [] := ⟨ss_nil, (fun r => by simp), (fun r h => by cases h), (fun r h => by cases h), Nat.zero_le _, Nat.zero_le _, Nat.le_refl _⟩
theorem ss_snoc {L : List R} (h : SS L) {y : R} (hy : ∀ r ∈ L, cmpR r y < 0) : SS (L ++ [y]) := by
  unfold SS
  rw [List.pairwise_append]
  exact ⟨h, List.pairwise_singleton _ _, fun a ha b hb => by rw [List.mem_singleton.1 hb]; exact hy a ha⟩
theorem mem_take_succ {Y : List R} {j : Nat} (hj : j < Y.length) (r : R) : r ∈ Y.take (j + 1) ↔ r ∈ Y.take j ∨ r = Y[j] := by
  rw [List.take_succ_eq_append_getElem hj, List.mem_append, List.mem_singleton]
theorem mem_drop_self {Y : List R} {j : Nat} (hj : j < Y.length) : Y[j] ∈ Y.drop j := by
  rw [List.drop_eq_getElem_cons hj]; exact List.mem_cons_self
theorem mem_drop_succ {Y : List R} {j : Nat} {s : R} (h : s ∈ Y.drop (j + 1)) : s ∈ Y.drop j := by
  rw [← List.drop_drop] at h
  exact List.mem_of_mem_drop h
/-- A row of Y that is less than the next row of X is taken. -/
theorem Merge.takeY {X Y L : List R} {k j : Nat} (m : Merge X Y k j L) (hX : SS X) (hY : SS Y) (hk : k < X.length) (hj : j < Y.length) (hlt : cmpR Y[j] X[k] < 0) : Merge X Y k (j + 1) (L ++ [Y[j]]) := by
  refine ⟨ss_snoc m.ss (fun r hr => m.ltY r hr _ (mem_drop_self hj)), fun r => ?_, fun r hr s hs => ?_, fun r hr s hs => ?_, m.kle, hj, ?_⟩
  · rw [List.mem_append, m.mem, List.mem_singleton, mem_take_succ hj, or_assoc]
  · rw [List.mem_append, List.mem_singleton] at hr
    rcases hr with hr | rfl
    · exact m.ltX r hr s hs
    · rw [List.drop_eq_getElem_cons hk, List.mem_cons] at hs
      rcases hs with rfl | hs
      · exact hlt
      · exact below_next hX hk hlt s hs
  · rw [List.mem_append, List.mem_singleton] at hr
    rcases hr with hr | rfl
    · exact m.ltY r hr s (mem_drop_succ hs)
    · obtain ⟨i, hi, rfl⟩ := List.getElem_of_mem hs
      simp only [List.length_drop] at hi
      rw [List.getElem_drop]
      exact hY.get (by omega) (by omega)
  · have := m.len; simp; omega
/-- The next row of X is taken, and the equal row of Y, if there is one, with it. -/
theorem Merge.takeX {X Y L : List R} {k j j' : Nat} (m : Merge X Y k j L) (hX : SS X) (hY : SS Y) (hk : k < X.length) (h : (j' = j ∧ ∀ hj : j < Y.length, 0 < cmpR Y[j] X[k]) ∨ (j' = j + 1 ∧ ∃ hj : j < Y.length, Y[j] = X[k])) : Merge X Y (k + 1) j' (L ++ [X[k]]) := by
  have hltY : ∀ s ∈ Y.drop j', cmpR X[k] s < 0 := fun s hs => by
    rcases h with ⟨rfl, h2⟩ | ⟨rfl, hj, he⟩
    · obtain ⟨i, hi, rfl⟩ := List.getElem_of_mem hs
      simp only [List.length_drop] at hi
      rw [List.getElem_drop]
      have h3 := (tot_cmpR.gt _ _).1 (h2 (by omega))
      rcases Nat.eq_zero_or_pos i with h0 | h0
      · subst h0; exact h3
      · exact tot_cmpR.tr _ _ _ h3 (hY.get (by omega) (by omega))
    · obtain ⟨i, hi, rfl⟩ := List.getElem_of_mem hs
      simp only [List.length_drop] at hi
      rw [List.getElem_drop, ← he]
      exact hY.get (by omega) (by omega)
  have hsub : ∀ s ∈ Y.drop j', s ∈ Y.drop j := fun s hs => by
    rcases h with ⟨rfl, _⟩ | ⟨rfl, _⟩
    · exact hs
    · exact mem_drop_succ hs
  refine ⟨ss_snoc m.ss (fun r hr => m.ltX r hr _ (mem_drop_self hk)), fun r => ?_, fun r hr s hs => ?_, fun r hr s hs => ?_, hk, ?_, ?_⟩
  · rw [List.mem_append, m.mem, List.mem_singleton, mem_take_succ hk]
    rcases h with ⟨rfl, _⟩ | ⟨rfl, hj, he⟩
    · constructor
      · rintro ((h | h) | h)
        · exact .inl (.inl h)
        · exact .inr h
        · exact .inl (.inr h)
      · rintro ((h | h) | h)
        · exact .inl (.inl h)
        · exact .inr h
        · exact .inl (.inr h)
    · rw [mem_take_succ hj, he]
      constructor
      · rintro ((h | h) | h)
        · exact .inl (.inl h)
        · exact .inr (.inl h)
        · exact .inl (.inr h)
      · rintro ((h | h) | (h | h))
        · exact .inl (.inl h)
        · exact .inr h
        · exact .inl (.inr h)
        · exact .inr h
  · rw [List.mem_append, List.mem_singleton] at hr
    rcases hr with hr | rfl
    · exact m.ltX r hr s (mem_drop_succ hs)
    · obtain ⟨i, hi, rfl⟩ := List.getElem_of_mem hs
      simp only [List.length_drop] at hi
      rw [List.getElem_drop]
      exact hX.get (by omega) (by omega)
  · rw [List.mem_append, List.mem_singleton] at hr
    rcases hr with hr | rfl
    · exact m.ltY r hr s (hsub s hs)
    · exact hltY s hs
  · rcases h with ⟨rfl, _⟩ | ⟨rfl, hj, _⟩
    · exact m.jle
    · exact hj
  · have := m.len
    rcases h with ⟨rfl, _⟩ | ⟨rfl, _⟩ <;> simp <;> omega
/-- All of X is taken: what is left of Y ends the merge. -/
theorem Merge.done {X Y L : List R} {j : Nat} (m : Merge X Y X.length j L) (hY : SS Y) : SS (L ++ Y.drop j) ∧ ∀ r, r ∈ L ++ Y.drop j ↔ r ∈ X ∨ r ∈ Y := by
  refine ⟨?_, fun r => ?_⟩
  · unfold SS
    rw [List.pairwise_append]
    exact ⟨m.ss, hY.drop j, fun a ha b hb => m.ltY a ha b hb⟩
  · rw [List.mem_append, m.mem, List.take_length, mem_take_drop (Y := Y) j r, or_assoc]

end Go.Proofs.Ytiomelogggilgaa.RL
end

section
/- Plain: the nodes of a trie over ascending rows, level by level, and where the children of a node lie. -/
namespace Go.Proofs.Ytiomelogggilgaa.RL

theorem cmpR_nil_le (y : R) : cmpR [] y ≤ 0 := by cases y <;> simp [cmpR, cmpL]
theorem cmpR_cons (a b : V) (x y : R) : cmpR (a :: x) (b :: y) = if cmpV a b = 0 then cmpR x y else cmpV a b := rfl
theorem take_mono : ∀ (n : Nat) (x y : R), cmpR x y ≤ 0 → cmpR (x.take n) (y.take n) ≤ 0
  | 0, x, y, _ => by simp [tot_cmpR.self]
  | n + 1, [], y, _ => by rw [List.take_nil]; exact cmpR_nil_le _
  | n + 1, a :: x, [], h => by simp [cmpR, cmpL] at h
  | n + 1, a :: x, b :: y, h => by
    rw [List.take_succ_cons, List.take_succ_cons, cmpR_cons]
    rw [cmpR_cons] at h
    split at h
    · rename_i e; rw [if_pos e]; exact take_mono n x y h
    · rename_i e; rw [if_neg e]; exact h
theorem take_le_self : ∀ (x : R) (m n : Nat), m ≤ n → cmpR (x.take m) (x.take n) ≤ 0
  | [], m, n, _ => by simp [tot_cmpR.self]
  | a :: x, 0, n, _ => by rw [List.take_zero]; exact cmpR_nil_le _
  | a :: x, m + 1, 0, h => by omega
  | a :: x, m + 1, n + 1, h => by
    rw [List.take_succ_cons, List.take_succ_cons, cmpR_cons, if_pos (tot_cmpV.self a)]
    exact take_le_self x m n (by omega)
/-- A strict comparison of two rows of one length is not turned by what stands behind them. -/
theorem lt_ext : ∀ (a b s t : R), a.length = b.length → cmpR a b < 0 → cmpR (a ++ s) (b ++ t) < 0
  | [], [], _, _, _, h => by simp [cmpR, cmpL] at h
  | [], _ :: _, _, _, hl, _ => by simp at hl
  | _ :: _, [], _, _, hl, _ => by simp at hl
  | a :: x, b :: y, s, t, hl, h => by
    rw [List.cons_append, List.cons_append, cmpR_cons]
    rw [cmpR_cons] at h
    split at h
    · rename_i e; rw [if_pos e]; exact lt_ext x y s t (by simpa using hl) h
    · rename_i e; rw [if_neg e]; exact h

/-- How many values two rows have in common at their beginning. -/
def sharedN : R → R → Nat
  | a :: x, b :: y => if a = b then sharedN x y + 1 else 0
  | [], _ => 0
  | _ :: _, [] => 0
theorem sharedN_take : ∀ (x y : R) (l : Nat), l ≤ sharedN x y → x.take l = y.take l
  | [], y, l, h => by simp [sharedN] at h; subst h; simp
  | a :: x, [], l, h => by simp [sharedN] at h; subst h; simp
  | a :: x, b :: y, 0, _ => by simp
  | a :: x, b :: y, l + 1, h => by
    unfold sharedN at h
    split at h
    · rename_i e
      rw [List.take_succ_cons, List.take_succ_cons, e, sharedN_take x y l (by omega)]
    · omega
theorem sharedN_ne : ∀ (x y : R) (l : Nat), sharedN x y < l → l ≤ x.length → l ≤ y.length → x.take l ≠ y.take l
  | [], y, l, h, h1, _ => by simp at h1; omega
  | a :: x, [], l, h, _, h2 => by simp at h2; omega
  | a :: x, b :: y, 0, h, _, _ => by omega
  | a :: x, b :: y, l + 1, h, h1, h2 => by
    unfold sharedN at h
    rw [List.take_succ_cons, List.take_succ_cons]
    intro e
    injection e with e1 e2
    rw [if_pos e1] at h
    exact sharedN_ne x y l (by omega) (by simpa using h1) (by simpa using h2) e2
theorem sharedN_le : ∀ (x y : R), sharedN x y ≤ x.length
  | [], y => by simp [sharedN]
  | a :: x, [] => by simp [sharedN]
  | a :: x, b :: y => by
    unfold sharedN
    have := sharedN_le x y
    split <;> simp <;> omega

/-- The nodes of a level: the distinct beginnings of the rows. -/
def nodes (d : Nat) (P : List R) (l : Nat) : List R := if l < d then ofF (P.map (List.take (l + 1))) else []
theorem nodes_ss (d : Nat) (P : List R) (l : Nat) : SS (nodes d P l) := by
  unfold nodes
  split
  · exact SS.of _
  · exact ss_nil
theorem mem_nodes {d : Nat} {P : List R} {l : Nat} (hl : l < d) (q : R) : q ∈ nodes d P l ↔ ∃ y ∈ P, y.take (l + 1) = q := by
  unfold nodes
  rw [if_pos hl, mem_ofF, List.mem_map]
theorem nodes_out {d : Nat} {P : List R} {l : Nat} (hl : d ≤ l) : nodes d P l = [] := by unfold nodes; rw [if_neg (by omega)]
theorem nodes_len (d : Nat) (P : List R) (l : Nat) : (nodes d P l).length ≤ P.length := by
  unfold nodes
  split
  · have := ofF_length_le (P.map (List.take (l + 1))); simpa using this
  · simp
theorem nodes_nil (d l : Nat) : nodes d [] l = [] := by unfold nodes; split <;> rfl
theorem mem_nodes_len {d : Nat} {P : List R} (hd : ∀ r ∈ P, r.length = d) {l : Nat} {q : R} (h : q ∈ nodes d P l) : q.length = l + 1 := by
  by_cases hl : l < d
  · obtain ⟨y, hy, rfl⟩ := (mem_nodes hl q).1 h
    have := hd y hy
    simp; omega
  · rw [nodes_out (by omega)] at h; cases h

theorem insF_end {L : List R} {a : R} (h : ∀ y ∈ L, cmpR y a < 0) : insF L a = L ++ [a] := by
  unfold insF
  have hn : ¬ a ∈ L := fun hm => by have := h a hm; rw [tot_cmpR.self] at this; omega
  rw [if_neg hn]
  have hr : rank L a = L.length := List.countP_eq_length.2 fun y hy => by simpa using h y hy
  rw [hr, List.take_length, List.drop_length]
theorem ofF_append (X : List R) (r : R) : ofF (X ++ [r]) = insF (ofF X) r := by unfold ofF; rw [List.foldl_append]; rfl
theorem nodes_same {d : Nat} {P : List R} {x : R} {l : Nat} (h : ∃ y ∈ P, y.take (l + 1) = x.take (l + 1)) : nodes d (P ++ [x]) l = nodes d P l := by
  unfold nodes
  split
  · rw [List.map_append, List.map_singleton, ofF_append]
    unfold insF
    rw [if_pos]
    rw [mem_ofF, List.mem_map]
    exact h
  · rfl
theorem nodes_new {d : Nat} {P : List R} {x : R} {l : Nat} (hl : l < d) (h : ∀ y ∈ P, cmpR (y.take (l + 1)) (x.take (l + 1)) < 0) : nodes d (P ++ [x]) l = nodes d P l ++ [x.take (l + 1)] := by
  unfold nodes
  rw [if_pos hl, if_pos hl, List.map_append, List.map_singleton, ofF_append]
  apply insF_end
  intro q hq
  rw [mem_ofF, List.mem_map] at hq
  obtain ⟨y, hy, rfl⟩ := hq
  exact h y hy

theorem rank_append_ge {L : List R} {q p : R} (h : 0 ≤ cmpR q p) : rank (L ++ [q]) p = rank L p := by
  unfold rank
  rw [List.countP_append, List.countP_singleton, if_neg (by simpa using h)]
  rfl
section
variable {d : Nat} {P : List R} {x : R} (hS : SS (P ++ [x])) (hd : ∀ r ∈ P ++ [x], r.length = d)
include hS hd
theorem shared_lt {l : Nat} (hl : l < d) (h : sharedN (P.getLastD []) x ≤ l) : ∀ y ∈ P, cmpR (y.take (l + 1)) (x.take (l + 1)) < 0 := by
  intro y hy
  rcases List.eq_nil_or_concat P with rfl | ⟨Q, z, rfl⟩
  · cases hy
  · simp only [List.concat_eq_append] at *
    rw [List.getLastD_concat] at h
    have hz : z.length = d := hd z (by simp)
    have hx : x.length = d := hd x (by simp)
    have hzx : cmpR z x < 0 := by
      unfold SS at hS
      rw [List.pairwise_append] at hS
      exact hS.2.2 z (by simp) x (by simp)
    have h1 : cmpR (z.take (l + 1)) (x.take (l + 1)) < 0 := by
      have h2 := take_mono (l + 1) z x (by omega)
      have h3 := sharedN_ne z x (l + 1) (by omega) (by omega) (by omega)
      rcases Int.lt_or_eq_of_le h2 with h4 | h4
      · exact h4
      · exact absurd ((tot_cmpR.z _ _).1 h4) h3
    have h5 : cmpR y z ≤ 0 := by
      rw [List.mem_append, List.mem_singleton] at hy
      rcases hy with hy | rfl
      · unfold SS at hS
        rw [List.pairwise_append, List.pairwise_append] at hS
        exact Int.le_of_lt (hS.1.2.2 y hy z (by simp))
      · rw [tot_cmpR.self]; omega
    exact tot_cmpR.lt_of_le_of_lt (take_mono (l + 1) y z h5) h1
theorem nodes_snoc {l : Nat} (hl : l < d) : nodes d (P ++ [x]) l = if l < sharedN (P.getLastD []) x then nodes d P l else nodes d P l ++ [x.take (l + 1)] := by
  split
  · rename_i h
    apply nodes_same
    rcases List.eq_nil_or_concat P with rfl | ⟨Q, z, rfl⟩
    · simp [sharedN] at h
    · simp only [List.concat_eq_append] at *
      rw [List.getLastD_concat] at h
      exact ⟨z, by simp, sharedN_take z x (l + 1) (by omega)⟩
  · rename_i h
    exact nodes_new hl (shared_lt hS hd hl (by omega))
omit hS hd in
theorem node_le {l : Nat} {p : R} (hP : ∀ y ∈ P, cmpR y x < 0) (hl : l < d) (hp : p ∈ nodes d P l) : cmpR p (x.take (l + 1)) ≤ 0 := by
  obtain ⟨y, hy, rfl⟩ := (mem_nodes hl p).1 hp
  exact take_mono (l + 1) y x (by have := hP y hy; omega)
end

/-- Where the children of each node of a level begin in the next level. -/
def firsts (d : Nat) (P : List R) (l : Nat) : List Nat := (nodes d P l).map (rank (nodes d P (l + 1)))

section
variable {d : Nat} {P : List R} {x : R} (hS : SS (P ++ [x])) (hd : ∀ r ∈ P ++ [x], r.length = d)
include hS hd
theorem rank_step {l : Nat} {p : R} (hl : l < d) (hp : cmpR p (x.take (l + 1)) ≤ 0) : rank (nodes d (P ++ [x]) (l + 1)) p = rank (nodes d P (l + 1)) p := by
  by_cases hl1 : l + 1 < d
  · rw [nodes_snoc hS hd hl1]
    split
    · rfl
    · apply rank_append_ge
      have h1 := tot_cmpR.le_trans hp (take_le_self x (l + 1) (l + 1 + 1) (by omega))
      rw [tot_cmpR.sw p]
      omega
  · rw [nodes_out (by omega), nodes_out (by omega)]
theorem firsts_snoc {l : Nat} (hl : l < d) : firsts d (P ++ [x]) l = if l < sharedN (P.getLastD []) x then firsts d P l else firsts d P l ++ [(nodes d P (l + 1)).length] := by
  have hPx : ∀ y ∈ P, cmpR y x < 0 := fun y hy => by
    unfold SS at hS
    rw [List.pairwise_append] at hS
    exact hS.2.2 y hy x (by simp)
  have hold : (nodes d P l).map (rank (nodes d (P ++ [x]) (l + 1))) = (nodes d P l).map (rank (nodes d P (l + 1))) := by
    apply List.map_congr_left
    intro p hp
    exact rank_step hS hd hl (node_le hPx hl hp)
  unfold firsts
  rw [nodes_snoc hS hd hl]
  by_cases h : l < sharedN (P.getLastD []) x
  · rw [if_pos h, if_pos h]
    exact hold
  · rw [if_neg h, if_neg h, List.map_append, hold, List.map_singleton]
    congr 2
    rw [rank_step hS hd hl (by rw [tot_cmpR.self]; omega)]
    apply List.countP_eq_length.2
    intro q hq
    by_cases hl1 : l + 1 < d
    · obtain ⟨y, hy, rfl⟩ := (mem_nodes hl1 q).1 hq
      have h1 := shared_lt hS hd hl (by omega) y hy
      have hyl : y.length = d := hd y (by simp [hy])
      have hxl : x.length = d := hd x (by simp)
      have h2 := lt_ext (y.take (l + 1)) (x.take (l + 1)) ((y.take (l + 2)).drop (l + 1)) [] (by simp; omega) h1
      have e : y.take (l + 1) ++ (y.take (l + 2)).drop (l + 1) = y.take (l + 2) := by
        conv => rhs; rw [← List.take_append_drop (l + 1) (y.take (l + 2))]
        rw [List.take_take, Nat.min_eq_left (by omega)]
      rw [e, List.append_nil] at h2
      simpa using h2
    · rw [nodes_out (by omega)] at hq; cases hq
end
theorem firsts_nil (d l : Nat) : firsts d [] l = [] := by unfold firsts; rw [nodes_nil d l]; rfl

section
variable {d : Nat} {P : List R} (hd : ∀ r ∈ P, r.length = d)
include hd
omit hd in
/-- A node's beginning is a node one level up. -/
theorem parent_mem {l : Nat} (hl : l + 1 < d) {q : R} (hq : q ∈ nodes d P (l + 1)) : q.take (l + 1) ∈ nodes d P l := by
  obtain ⟨y, hy, rfl⟩ := (mem_nodes hl q).1 hq
  refine (mem_nodes (by omega) _).2 ⟨y, hy, ?_⟩
  rw [List.take_take, Nat.min_eq_left (by omega)]
omit hd in
/-- Every node has a child. -/
theorem child_mem {l : Nat} (hl : l + 1 < d) {p : R} (hp : p ∈ nodes d P l) : ∃ q ∈ nodes d P (l + 1), q.take (l + 1) = p := by
  obtain ⟨y, hy, rfl⟩ := (mem_nodes (by omega) p).1 hp
  refine ⟨y.take (l + 2), (mem_nodes hl _).2 ⟨y, hy, rfl⟩, ?_⟩
  rw [List.take_take, Nat.min_eq_left (by omega)]
/-- A node one level down against a node: its beginning tells. -/
theorem child_cmp {l : Nat} {q p : R} (hq : q ∈ nodes d P (l + 1)) (hp : p.length = l + 1) : (cmpR q p < 0 ↔ cmpR (q.take (l + 1)) p < 0) ∧ (beginsB q p = true ↔ q.take (l + 1) = p) := by
  have hql := mem_nodes_len hd hq
  have e : q.take (l + 1) ++ q.drop (l + 1) = q := List.take_append_drop _ _
  refine ⟨⟨fun h => ?_, fun h => ?_⟩, ?_⟩
  · rcases Int.lt_or_le (cmpR (q.take (l + 1)) p) 0 with h1 | h1
    · exact h1
    · exfalso
      have h2 : cmpR p (q.take (l + 1)) ≤ 0 := by rw [tot_cmpR.sw]; omega
      have h3 := tot_cmpR.le_trans h2 (by have := take_le_self q (l + 1) q.length (by omega); rw [List.take_length] at this; exact this)
      rw [tot_cmpR.sw] at h3
      omega
  · have h2 := lt_ext (q.take (l + 1)) p (q.drop (l + 1)) [] (by simp; omega) h
    rw [e, List.append_nil] at h2
    exact h2
  · unfold beginsB
    rw [hp]
    simp only [Bool.and_eq_true, decide_eq_true_eq]
    exact ⟨fun h => h.2, fun h => ⟨by omega, h⟩⟩
/-- The children of a node end where those of the next node begin. -/
theorem firsts_next {l : Nat} (hl : l + 1 < d) {i : Nat} (hi : i + 1 < (nodes d P l).length) :
    rank (nodes d P (l + 1)) (nodes d P l)[i + 1] = rank (nodes d P (l + 1)) ((nodes d P l)[i]'(by omega)) + manyB (nodes d P (l + 1)) ((nodes d P l)[i]'(by omega)) := by
  have hN := nodes_ss d P (l + 1)
  have hM := nodes_ss d P l
  have hi0 : i < (nodes d P l).length := by omega
  have hpl : ((nodes d P l)[i]).length = l + 1 := mem_nodes_len hd (List.getElem_mem hi0)
  have hpl2 : ((nodes d P l)[i + 1]).length = l + 1 := mem_nodes_len hd (List.getElem_mem hi)
  have hlt := hM.get (show i < i + 1 by omega) hi
  obtain ⟨a1, a2⟩ := rank_split hN ((nodes d P l)[i])
  obtain ⟨b1, b2⟩ := rank_split hN ((nodes d P l)[i + 1])
  have hle : rank (nodes d P (l + 1)) ((nodes d P l)[i]) ≤ rank (nodes d P (l + 1)) ((nodes d P l)[i + 1]) := by
    unfold rank
    apply List.countP_mono_left
    intro q _ hq
    simp only [decide_eq_true_eq] at hq ⊢
    exact tot_cmpR.tr _ _ _ hq hlt
  have hbl := rank_le (nodes d P (l + 1)) ((nodes d P l)[i + 1])
  have key := manyB_eq hN ((nodes d P l)[i]) (j := rank (nodes d P (l + 1)) ((nodes d P l)[i + 1]) - rank (nodes d P (l + 1)) ((nodes d P l)[i])) (by omega) ?_ ?_
  · omega
  · intro k hk hkj
    have hq := List.getElem_mem hk
    obtain ⟨c1, c2⟩ := child_cmp hd hq hpl
    obtain ⟨c3, _⟩ := child_cmp hd hq hpl2
    have hge := a2 _ hk (by omega)
    have hlt2 := c3.1 (b1 _ hk (by omega))
    refine c2.2 ?_
    -- its beginning is a node between the two
    obtain ⟨j, hj, e⟩ := List.getElem_of_mem (parent_mem hl hq)
    rw [← e] at hlt2 c1 ⊢
    have hji : j ≤ i := by
      refine Classical.byContradiction fun hn => ?_
      rcases Nat.lt_or_ge (i + 1) j with h1 | h1
      · have := hM.get h1 hj
        rw [tot_cmpR.sw] at this
        omega
      · obtain rfl : j = i + 1 := by omega
        rw [tot_cmpR.self] at hlt2
        omega
    rcases Nat.lt_or_ge j i with h1 | h1
    · have := c1.2 (hM.get h1 hi0)
      omega
    · obtain rfl : j = i := by omega
      rfl
  · intro hk
    have hq := List.getElem_mem hk
    obtain ⟨_, c2⟩ := child_cmp hd hq hpl
    obtain ⟨c3, _⟩ := child_cmp hd hq hpl2
    have hge := b2 _ hk (by omega)
    cases hb : beginsB (nodes d P (l + 1))[rank (nodes d P (l + 1)) ((nodes d P l)[i]) + (rank (nodes d P (l + 1)) ((nodes d P l)[i + 1]) - rank (nodes d P (l + 1)) ((nodes d P l)[i]))] ((nodes d P l)[i])
    · rfl
    · exfalso
      have := c3.2 (by rw [c2.1 hb]; exact hlt)
      omega
theorem firsts_last {l : Nat} (hl : l + 1 < d) {i : Nat} (hi : i + 1 = (nodes d P l).length) :
    (nodes d P (l + 1)).length = rank (nodes d P (l + 1)) ((nodes d P l)[i]'(by omega)) + manyB (nodes d P (l + 1)) ((nodes d P l)[i]'(by omega)) := by
  have hN := nodes_ss d P (l + 1)
  have hM := nodes_ss d P l
  have hi0 : i < (nodes d P l).length := by omega
  have hpl : ((nodes d P l)[i]).length = l + 1 := mem_nodes_len hd (List.getElem_mem hi0)
  obtain ⟨a1, a2⟩ := rank_split hN ((nodes d P l)[i])
  have hbl := rank_le (nodes d P (l + 1)) ((nodes d P l)[i])
  have key := manyB_eq hN ((nodes d P l)[i]) (j := (nodes d P (l + 1)).length - rank (nodes d P (l + 1)) ((nodes d P l)[i])) (by omega) ?_ (fun hk => by omega)
  · omega
  · intro k hk hkj
    have hq := List.getElem_mem hk
    obtain ⟨c1, c2⟩ := child_cmp hd hq hpl
    have hge := a2 _ hk (by omega)
    refine c2.2 ?_
    obtain ⟨j, hj, e⟩ := List.getElem_of_mem (parent_mem hl hq)
    rw [← e] at c1 ⊢
    rcases Nat.lt_or_ge j i with h1 | h1
    · have := c1.2 (hM.get h1 hi0)
      omega
    · obtain rfl : j = i := by omega
      rfl
end

end Go.Proofs.Ytiomelogggilgaa.RL
end

section
/- Words for tries and iterators in memory; walks: onValue, Level, Steps, Depth, size, Iter. -/
namespace Go.Proofs.Ytiomelogggilgaa
open Go.RowKit Go.Sort

/-- The levels of a trie in memory: the values of each level, and where the children of each node begin. -/
def TrM (B : Nat) (w : World) (LA : Option Addr) (d : Nat) (vs : Nat → RL.R) (fs : Nat → List Nat) : Prop :=
  ∀ l, l < d → ∃ b o VA VC FA FC, LA = some ⟨b, o, none⟩ ∧ b < B ∧ w.cell? ⟨b, o + l * 2, none⟩ = some (.slice VA (vs l).length VC) ∧ w.cell? ⟨b, o + l * 2 + 1, none⟩ = some (.slice FA (fs l).length FC) ∧ (vs l).length ≤ VC ∧ VC ≤ 9223372036854775807 ∧ SlR B w VA (vs l) ∧ SlN .i64 B w FA (fs l)
theorem TrM.keep {B : Nat} {w w' : World} {LA : Option Addr} {d : Nat} {vs : Nat → RL.R} {fs : Nat → List Nat} (h : TrM B w LA d vs fs) (hk : ∀ p : Addr, p.block < B → w'.cell? p = w.cell? p) : TrM B w' LA d vs fs := fun l hl => by
  obtain ⟨b, o, VA, VC, FA, FC, h1, h2, h3, h4, h5, h6, h7, h8⟩ := h l hl
  exact ⟨b, o, VA, VC, FA, FC, h1, h2, (hk ⟨b, o + l * 2, none⟩ h2).trans h3, (hk ⟨b, o + l * 2 + 1, none⟩ h2).trans h4, h5, h6, Sl.keep h7 hk, Sl.keep h8 hk⟩
theorem TrM.grown {B g : Nat} {w w' : World} {LA : Option Addr} {d : Nat} {vs : Nat → RL.R} {fs : Nat → List Nat} (h : TrM B w LA d vs fs) (hg : w.grownBy w' (some g)) (hB : B ≤ g) (hz : B ≤ w.heap.size) : TrM B w' LA d vs fs :=
  h.keep fun _p hp => (below_of_grown hg hB hz).cell hp
theorem TrM.below {B C : Nat} {w w' : World} {LA : Option Addr} {d : Nat} {vs : Nat → RL.R} {fs : Nat → List Nat} (h : TrM B w LA d vs fs) (hb : Below C w w') (hB : B ≤ C) : TrM B w' LA d vs fs :=
  h.keep fun p hp => hb.cell (by omega)
theorem TrM.more {B B' : Nat} {w : World} {LA : Option Addr} {d : Nat} {vs : Nat → RL.R} {fs : Nat → List Nat} (h : TrM B w LA d vs fs) (hB : B ≤ B') : TrM B' w LA d vs fs := fun l hl => by
  obtain ⟨b, o, VA, VC, FA, FC, h1, h2, h3, h4, h5, h6, h7, h8⟩ := h l hl
  exact ⟨b, o, VA, VC, FA, FC, h1, by omega, h3, h4, h5, h6, Sl.more h7 hB, Sl.more h8 hB⟩

/-- A trie that lies in blocks from lo on: it stays whatever turns below. -/
def TrK (lo : Nat) (w : World) (LA : Option Addr) (d : Nat) (vs : Nat → RL.R) (fs : Nat → List Nat) : Prop :=
  ∀ w'' : World, (∀ p : Addr, lo ≤ p.block → p.block < w.heap.size → w''.cell? p = w.cell? p) → TrM w.heap.size w'' LA d vs fs
theorem TrK.tr {lo : Nat} {w : World} {LA : Option Addr} {d : Nat} {vs : Nat → RL.R} {fs : Nat → List Nat} (h : TrK lo w LA d vs fs) : TrM w.heap.size w LA d vs fs := h w fun _ _ _ => rfl
theorem Sl.keepLo {lo B : Nat} {w w' : World} {A : Option Addr} {xs : List Value} (h : Sl B w A xs) (hA : ∀ ad, A = some ad → lo ≤ ad.block) (hk : ∀ p : Addr, lo ≤ p.block → p.block < B → w'.cell? p = w.cell? p) : Sl B w' A xs := fun hn => by
  obtain ⟨b, o, e, hb, hc⟩ := h hn
  exact ⟨b, o, e, hb, fun i u hu => (hk ⟨b, o + i, none⟩ (hA ⟨b, o, none⟩ e) hb).trans (hc i u hu)⟩

/-- An iterator: its level, its place among its siblings and their end, its steps, the places above. -/
structure It where
  L : Nat
  pos : Nat
  fin : Nat
  steps : Nat
  ab : Nat → Nat × Nat
/-- The cells of an iterator. -/
def ItC (xs : List Value) (LA : Option Addr) (d C : Nat) (t : It) : Prop :=
  xs.length = 69 ∧ xs[0]? = some (.slice LA d C) ∧ xs[1]? = some (.int .i64 t.L) ∧ xs[2]? = some (.int .i64 t.pos) ∧ xs[3]? = some (.int .i64 t.fin) ∧ (∀ j, j < 32 → xs[4 + j * 2]? = some (.int .i64 (t.ab j).1) ∧ xs[4 + j * 2 + 1]? = some (.int .i64 (t.ab j).2)) ∧ xs[68]? = some (.int .i64 t.steps)
/-- An iterator in memory. -/
def ItM (w : World) (g : Nat) (LA : Option Addr) (d C : Nat) (t : It) : Prop := ∃ xs, Row w g 136 xs ∧ ItC xs LA d C t

section
variable {w w' : World} {g : Nat} {LA : Option Addr} {d C : Nat} {t : It} {xs : List Value}
theorem ItM.lt (h : ItM w g LA d C t) : g < w.heap.size := by obtain ⟨xs, h1, _⟩ := h; exact h1.lt
theorem ItM.c0 (h : ItM w g LA d C t) : w.cell? ⟨g, 0, none⟩ = some (.slice LA d C) := by obtain ⟨xs, h1, h2⟩ := h; rw [h1.cell]; exact h2.2.1
theorem ItM.c1 (h : ItM w g LA d C t) : w.cell? ⟨g, 1, none⟩ = some (.int .i64 t.L) := by obtain ⟨xs, h1, h2⟩ := h; rw [h1.cell]; exact h2.2.2.1
theorem ItM.c2 (h : ItM w g LA d C t) : w.cell? ⟨g, 2, none⟩ = some (.int .i64 t.pos) := by obtain ⟨xs, h1, h2⟩ := h; rw [h1.cell]; exact h2.2.2.2.1
theorem ItM.c3 (h : ItM w g LA d C t) : w.cell? ⟨g, 3, none⟩ = some (.int .i64 t.fin) := by obtain ⟨xs, h1, h2⟩ := h; rw [h1.cell]; exact h2.2.2.2.2.1
theorem ItM.ca (h : ItM w g LA d C t) {j : Nat} (hj : j < 32) : w.cell? ⟨g, 4 + j * 2, none⟩ = some (.int .i64 (t.ab j).1) ∧ w.cell? ⟨g, 4 + j * 2 + 1, none⟩ = some (.int .i64 (t.ab j).2) := by
  obtain ⟨xs, h1, h2⟩ := h
  rw [h1.cell, h1.cell]
  exact h2.2.2.2.2.2.1 j hj
theorem ItM.c68 (h : ItM w g LA d C t) : w.cell? ⟨g, 68, none⟩ = some (.int .i64 t.steps) := by obtain ⟨xs, h1, h2⟩ := h; rw [h1.cell]; exact h2.2.2.2.2.2.2
theorem ItM.fr (h : ItM w g LA d C t) (o : Nat) : w.frozen? ⟨g, o, none⟩ = false := by obtain ⟨xs, h1, _⟩ := h; exact h1.frozen o
theorem ItM.up (h : ItM w g LA d C t) (hb : Below w.heap.size w w') : ItM w' g LA d C t := by obtain ⟨xs, h1, h2⟩ := h; exact ⟨xs, h1.up hb, h2⟩
theorem ItM.ext (h : ItM w g LA d C t) (hb : Ext w w') : ItM w' g LA d C t := h.up hb.below
theorem ItM.grown {row : Option Nat} (h : ItM w g LA d C t) (hb : w.grownBy w' row) (hne : some g ≠ row) : ItM w' g LA d C t := by obtain ⟨xs, h1, h2⟩ := h; exact ⟨xs, h1.grown hb hne, h2⟩
theorem ItM.setL (h : ItM w g LA d C t) (n : Nat) : ItM (w.setCell ⟨g, 1, none⟩ (.int .i64 n)) g LA d C { t with L := n } := by
  obtain ⟨xs, h1, hl, h2, h3, h4, h5, h6, h7⟩ := h
  refine ⟨_, h1.set 1 _, by simpa using hl, ?_, ?_, ?_, ?_, fun j hj => ?_, ?_⟩
  · rw [List.getElem?_set_ne (by omega)]; exact h2
  · rw [List.getElem?_set_self (by omega)]
  · rw [List.getElem?_set_ne (by omega)]; exact h4
  · rw [List.getElem?_set_ne (by omega)]; exact h5
  · rw [List.getElem?_set_ne (by omega), List.getElem?_set_ne (by omega)]; exact h6 j hj
  · rw [List.getElem?_set_ne (by omega)]; exact h7
theorem ItM.setPos (h : ItM w g LA d C t) (n : Nat) : ItM (w.setCell ⟨g, 2, none⟩ (.int .i64 n)) g LA d C { t with pos := n } := by
  obtain ⟨xs, h1, hl, h2, h3, h4, h5, h6, h7⟩ := h
  refine ⟨_, h1.set 2 _, by simpa using hl, ?_, ?_, ?_, ?_, fun j hj => ?_, ?_⟩
  · rw [List.getElem?_set_ne (by omega)]; exact h2
  · rw [List.getElem?_set_ne (by omega)]; exact h3
  · rw [List.getElem?_set_self (by omega)]
  · rw [List.getElem?_set_ne (by omega)]; exact h5
  · rw [List.getElem?_set_ne (by omega), List.getElem?_set_ne (by omega)]; exact h6 j hj
  · rw [List.getElem?_set_ne (by omega)]; exact h7
theorem ItM.setFin (h : ItM w g LA d C t) (n : Nat) : ItM (w.setCell ⟨g, 3, none⟩ (.int .i64 n)) g LA d C { t with fin := n } := by
  obtain ⟨xs, h1, hl, h2, h3, h4, h5, h6, h7⟩ := h
  refine ⟨_, h1.set 3 _, by simpa using hl, ?_, ?_, ?_, ?_, fun j hj => ?_, ?_⟩
  · rw [List.getElem?_set_ne (by omega)]; exact h2
  · rw [List.getElem?_set_ne (by omega)]; exact h3
  · rw [List.getElem?_set_ne (by omega)]; exact h4
  · rw [List.getElem?_set_self (by omega)]
  · rw [List.getElem?_set_ne (by omega), List.getElem?_set_ne (by omega)]; exact h6 j hj
  · rw [List.getElem?_set_ne (by omega)]; exact h7
theorem ItM.setSteps (h : ItM w g LA d C t) (n : Nat) : ItM (w.setCell ⟨g, 68, none⟩ (.int .i64 n)) g LA d C { t with steps := n } := by
  obtain ⟨xs, h1, hl, h2, h3, h4, h5, h6, h7⟩ := h
  refine ⟨_, h1.set 68 _, by simpa using hl, ?_, ?_, ?_, ?_, fun j hj => ?_, ?_⟩
  · rw [List.getElem?_set_ne (by omega)]; exact h2
  · rw [List.getElem?_set_ne (by omega)]; exact h3
  · rw [List.getElem?_set_ne (by omega)]; exact h4
  · rw [List.getElem?_set_ne (by omega)]; exact h5
  · rw [List.getElem?_set_ne (by omega), List.getElem?_set_ne (by omega)]; exact h6 j hj
  · rw [List.getElem?_set_self (by omega)]
/-- The place above at a level is laid down. -/
theorem ItM.setAb (h : ItM w g LA d C t) {k : Nat} (hk : k < 32) (p f : Nat) : ItM ((w.setCell ⟨g, 4 + k * 2, none⟩ (.int .i64 p)).setCell ⟨g, 4 + k * 2 + 1, none⟩ (.int .i64 f)) g LA d C { t with ab := fun j => if j = k then (p, f) else t.ab j } := by
  obtain ⟨xs, h1, hl, h2, h3, h4, h5, h6, h7⟩ := h
  refine ⟨_, (h1.set _ _).set _ _, by simpa using hl, ?_, ?_, ?_, ?_, fun j hj => ?_, ?_⟩
  · rw [List.getElem?_set_ne (by omega), List.getElem?_set_ne (by omega)]; exact h2
  · rw [List.getElem?_set_ne (by omega), List.getElem?_set_ne (by omega)]; exact h3
  · rw [List.getElem?_set_ne (by omega), List.getElem?_set_ne (by omega)]; exact h4
  · rw [List.getElem?_set_ne (by omega), List.getElem?_set_ne (by omega)]; exact h5
  · by_cases e : j = k
    · subst e
      simp only [if_true]
      refine ⟨?_, ?_⟩
      · rw [List.getElem?_set_ne (by omega), List.getElem?_set_self (by omega)]
      · rw [List.getElem?_set_self (by simp; omega)]
    · simp only [if_neg e]
      rw [List.getElem?_set_ne (by omega), List.getElem?_set_ne (by omega), List.getElem?_set_ne (by omega), List.getElem?_set_ne (by omega)]
      exact h6 j hj
  · rw [List.getElem?_set_ne (by omega), List.getElem?_set_ne (by omega)]; exact h7
end

theorem tiOnValue_nil (w : World) : Calls Try.prog 87 #[.pointer none] w fun e w' => e = .returned (.bool false) ∧ Ext w w' := by
  go_enter Try.func87, Try.ntmps87
  go_wp2
  go_quiet (fail)
  go_wp2
  go_ret
  exact ⟨rfl, (Ext.refl w).drewN _⟩

set_option maxHeartbeats 400000 in
set_option maxRecDepth 100000 in
theorem tiOnValue_any (g : Nat) (LA : Option Addr) (d C : Nat) (t : It) (w : World) (h : ItM w g LA d C t) :
    Calls Try.prog 87 #[.pointer (some ⟨g, 0, none⟩)] w fun e w' => e = .returned (.bool (decide (0 < t.L) && decide (t.pos < t.fin))) ∧ Ext w w' := by
  have c1 := h.c1
  have c2 := h.c2
  have c3 := h.c3
  clear h
  obtain ⟨L, pos, fin, steps, ab⟩ := t
  simp only at c1 c2 c3 ⊢
  by_cases h0 : 0 < L
  rotate_left
  · obtain rfl : L = 0 := by omega
    clear h0
    simp only [Int.natCast_zero] at c1
    go_enter Try.func87, Try.ntmps87
    go_wp2
    go_quiet (fail)
    go_wp2
    go_ret
    exact ⟨rfl, (Ext.refl w).drewN _⟩
  · have hd0 : decide ((0 : Int) < (L : Int)) = true := by simpa using h0
    by_cases h1 : pos < fin
    · have hd1 : decide ((pos : Int) < (fin : Int)) = true := by simpa using h1
      have HD : Hid ((decide (0 < L) && decide (pos < fin)) = true) := by show _ = _; simp [h0, h1]
      rw [HD.out]
      go_enter Try.func87, Try.ntmps87
      go_wp2
      go_quiet (fail)
      go_wp2
      go_ret
      exact ⟨rfl, (Ext.refl w).drewN _⟩
    · have hd1 : decide ((pos : Int) < (fin : Int)) = false := by simpa using h1
      have hd2 : decide (pos < fin) = false := by simpa using h1
      have HD : Hid ((decide (0 < L) && decide (pos < fin)) = false) := by show _ = _; simp [h1]
      rw [HD.out]
      go_enter Try.func87, Try.ntmps87
      go_wp2
      go_quiet (fail)
      go_wp2
      go_ret
      exact ⟨rfl, (Ext.refl w).drewN _⟩

end Go.Proofs.Ytiomelogggilgaa
end

section
/- Walks: Level, Steps, Depth, size, value, less, Key, Next, Up, Iter. -/
namespace Go.Proofs.Ytiomelogggilgaa
open Go.RowKit Go.Sort

theorem tiSteps_nil (w : World) : Calls Try.prog 54 #[.pointer none] w fun e w' => e = .returned (.int .i64 0) ∧ w = w' := by
  go_enter Try.func54, Try.ntmps54
  go_wp2
  go_ret
  exact ⟨rfl, rfl⟩
theorem tiSteps_any (g : Nat) (LA : Option Addr) (d C : Nat) (t : It) (w : World) (h : ItM w g LA d C t) :
    Calls Try.prog 54 #[.pointer (some ⟨g, 0, none⟩)] w fun e w' => e = .returned (.int .i64 t.steps) ∧ w = w' := by
  have c1 := h.c68
  clear h
  go_enter Try.func54, Try.ntmps54
  go_wp2
  go_ret
  exact ⟨rfl, rfl⟩

theorem trDepth_any (LA : Option Addr) (d C : Nat) (w : World) : Calls Try.prog 88 #[.agg #[.slice LA d C]] w fun e w' => e = .returned (.int .i64 d) ∧ Ext w w' := by
  go_enter Try.func88, Try.ntmps88
  go_wp2
  go_ret
  exact ⟨rfl, (Ext.refl w).alloc _⟩

/-- How many nodes a level has. -/
def sizeF (d : Nat) (vs : Nat → RL.R) (l : Nat) : Nat := if l < d then (vs l).length else 0
set_option maxHeartbeats 400000 in
theorem trSize_any (B : Nat) (LA : Option Addr) (d C : Nat) (vs : Nat → RL.R) (fs : Nat → List Nat) (l : Nat) (w : World) (h : TrM B w LA d vs fs) (hB : B ≤ w.heap.size) (_hd : d ≤ 1000000) (_hl : l ≤ 1000000) :
    Calls Try.prog 74 #[.agg #[.slice LA d C], .int .i64 l] w fun e w' => e = .returned (.int .i64 (sizeF d vs l)) ∧ Ext w w' := by
  by_cases hld : l < d
  · obtain ⟨b, o, VA, VC, FA, FC, rfl, hb, h3, h4, h5, h6, h7, h8⟩ := h l hld
    have HD : Hid (sizeF d vs l = (vs l).length) := by show _ = _; unfold sizeF; rw [if_pos hld]
    have hb' : b < w.heap.size := by omega
    rw [HD.out]
    clear h h7 h8 h4
    generalize (vs l).length = n at *
    go_enter Try.func74, Try.ntmps74
    go_wp2
    go_ret
    exact ⟨rfl, (Ext.refl w).alloc _⟩
  · have HD : Hid (sizeF d vs l = 0) := by show _ = _; unfold sizeF; rw [if_neg hld]
    rw [HD.out]
    clear h
    go_enter Try.func74, Try.ntmps74
    go_wp2
    go_ret
    exact ⟨rfl, (Ext.refl w).alloc _⟩

theorem grown_set (w : World) (g o : Nat) (u : Value) : w.grownBy (w.setCell ⟨g, o, none⟩ u) (some g) := ⟨rfl, rfl, rfl, by simp, fun b _ hne => Below.heap_setCell w ⟨g, o, none⟩ u b (fun e => hne (by rw [e]))⟩
theorem Row.set3 {w : World} {g : Nat} {e : TypeId} {a0 b0 c0 : Value} (h : Row w g e [a0, b0, c0]) (a b c : Value) : Row (((w.setCell ⟨g, 0, none⟩ a).setCell ⟨g, 1, none⟩ b).setCell ⟨g, 2, none⟩ c) g e [a, b, c] := ((h.set 0 a).set 1 b).set 2 c

set_option maxHeartbeats 1000000 in
set_option maxRecDepth 100000 in
theorem tiValue_any (B g : Nat) (LA : Option Addr) (d C : Nat) (vs : Nat → RL.R) (fs : Nat → List Nat) (t : It) (p : Nat) (w : World) (h : TrM B w LA d vs fs) (hB : B ≤ w.heap.size) (hi : ItM w g LA d C t) (hd : d ≤ 1000000) (hL : 0 < t.L) (hLd : t.L ≤ d) (hp : p < (vs (t.L - 1)).length) (_hvl : (vs (t.L - 1)).length ≤ 1000000) :
    Calls Try.prog 90 #[.pointer (some ⟨g, 0, none⟩), .int .i64 p] w fun e w' => e = .returned (vv (vs (t.L - 1))[p]) ∧ Below w.heap.size w w' := by
  have HW : Hid (∃ W0, W0 = w.alloc (.cells #[.int .i64 0, .int .i64 0, .string ⟨#[]⟩] 41) ∧ Ext w W0 ∧ Row W0 w.heap.size 41 [.int .i64 0, .int .i64 0, .string ⟨#[]⟩]) := ⟨_, rfl, (Ext.refl w).alloc _, Row.new w 41 [.int .i64 0, .int .i64 0, .string ⟨#[]⟩]⟩
  obtain ⟨W0, hW0, he, hrow⟩ := HW.out
  clear HW
  have hi' := hi.ext he
  have h' := h.below he.below hB
  have hB' : B ≤ W0.heap.size := Nat.le_trans hB he.size
  have c0 := hi'.c0
  have c1 := hi'.c1
  have hg := hi.lt
  obtain ⟨b, o, VA, VC, FA, FC, rfl, hb, h3, h4, h5, h6, h7, h8⟩ := h' (t.L - 1) (by omega)
  obtain ⟨b2, o2, rfl, hb2, e1, e2, e3⟩ := slR_at h7 hp
  generalize (vs (t.L - 1))[p] = z at *
  generalize (vs (t.L - 1)).length = n at *
  obtain ⟨L, hL'⟩ : ∃ L, t.L = L + 1 := ⟨t.L - 1, by omega⟩
  rw [hL'] at c1 h3 hLd
  rw [Nat.add_sub_cancel] at h3
  rw [Int.natCast_add, Int.natCast_one] at c1
  have HE := Lib.hid he
  have HROW := Lib.hid hrow
  have r0 := hrow.cell 0
  have r1 := hrow.cell 1
  have r2 := hrow.cell 2
  have f0 := hrow.frozen 0
  have f1 := hrow.frozen 1
  have f2 := hrow.frozen 2
  simp only [List.getElem?_cons_zero, List.getElem?_cons_succ] at r0 r1 r2
  clear h h' h7 h8 h4 hi hi' hL hL' he hrow
  have g1 : (0 : Int) ≤ (L : Int) := by omega
  have g2 : (L : Int) < (d : Int) := by omega
  have g3 : (0 : Int) ≤ (p : Int) := by omega
  have g4 : (p : Int) < (n : Int) := by omega
  have hw1 : IntKind.i64.wrap (L : Int) = (L : Int) := IntWalk.i64_in _ (by omega)
  go_enter Try.func90, Try.ntmps90
  go_wp2
  rw [← hW0]
  clear hW0
  go_still_tail 16, (by kernel_rfl)
  go_wp2
  refine bodyPost_ret (v := vv z) ?_ rfl ⟨rfl, ?_⟩
  · have z0 := (HROW.out.set 0 (.int .i64 z.kind)).cell 0
    have z1 := ((HROW.out.set 0 (.int .i64 z.kind)).set 1 (.int .i64 z.int)).cell 1
    have z2 := (((HROW.out.set 0 (.int .i64 z.kind)).set 1 (.int .i64 z.int)).set 2 (.string z.str)).cell 2
    simp only [List.set_cons_zero, List.set_cons_succ, List.getElem?_cons_zero, List.getElem?_cons_succ] at z0 z1 z2
    simp [results, Try.results90, go_sem, z0, z1, z2]
  · exact ((HE.out.drew.below.setCell (p := ⟨w.heap.size, 0, none⟩) (Nat.le_refl _) _).setCell (p := ⟨w.heap.size, 1, none⟩) (Nat.le_refl _) _).setCell (p := ⟨w.heap.size, 2, none⟩) (Nat.le_refl _) _

set_option maxHeartbeats 1000000 in
set_option maxRecDepth 100000 in
theorem tiLess_any (B g : Nat) (LA : Option Addr) (d C : Nat) (vs : Nat → RL.R) (fs : Nat → List Nat) (t : It) (p : Nat) (v : RL.V) (w : World) (h : TrM B w LA d vs fs) (hB : B ≤ w.heap.size) (hBg : B ≤ g) (hi : ItM w g LA d C t) (hd : d ≤ 1000000) (hL : 0 < t.L) (hLd : t.L ≤ d) (hp : p < (vs (t.L - 1)).length) (hvl : (vs (t.L - 1)).length ≤ 1000000) (hst : t.steps ≤ 1000000000000000000) :
    Calls Try.prog 104 #[.pointer (some ⟨g, 0, none⟩), .int .i64 p, vv v] w fun e w' => e = .returned (.bool (decide (RL.cmpV (vs (t.L - 1))[p] v < 0))) ∧ ItM w' g LA d C { t with steps := t.steps + 1 } ∧ w.grownBy w' (some g) := by
  obtain ⟨W1, hW1⟩ : ∃ W1, W1 = (w.setCell ⟨g, 68, none⟩ (.int .i64 ((t.steps + 1 : Nat) : Int))).alloc (.cells #[.int .i64 v.kind, .int .i64 v.int, .string v.str] 41) := ⟨_, rfl⟩
  have hg := hi.lt
  have hgr : w.grownBy W1 (some g) := by
    rw [hW1]
    exact grown_trans (grown_set w g 68 _) (((Ext.refl (w.setCell ⟨g, 68, none⟩ (.int .i64 ((t.steps + 1 : Nat) : Int)))).alloc _).grown _)
  have hi1 : ItM W1 g LA d C { t with steps := t.steps + 1 } := by rw [hW1]; exact (hi.setSteps (t.steps + 1)).ext ((Ext.refl _).alloc _)
  have hr1 : Row W1 w.heap.size 41 (vcells v) := by
    rw [hW1]
    have hh := Row.new (w.setCell ⟨g, 68, none⟩ (.int .i64 ((t.steps + 1 : Nat) : Int))) 41 (vcells v)
    rw [show (w.setCell ⟨g, 68, none⟩ (.int .i64 ((t.steps + 1 : Nat) : Int))).heap.size = w.heap.size by simp] at hh
    exact hh
  have hT1 : TrM B W1 LA d vs fs := h.grown hgr hBg hB
  have HV := Lib.hid (tiValue_any B g LA d C vs fs { t with steps := t.steps + 1 } p W1.drew hT1 (Nat.le_trans hB hgr.size) hi1 hd hL hLd hp hvl)
  have c68 := hi.c68
  have f68 := hi.fr 68
  have HI1 := Lib.hid hi1
  have HGR := Lib.hid hgr
  have HR1 := Lib.hid hr1
  have HCMP := Lib.hid (fun W => vCompare_any (vs (t.L - 1))[p] v W)
  have n0 : W1.cell? ⟨w.heap.size, 0, none⟩ = some (.int .i64 v.kind) := hr1.cell 0
  have n1 : W1.cell? ⟨w.heap.size, 1, none⟩ = some (.int .i64 v.int) := hr1.cell 1
  have n2 : W1.cell? ⟨w.heap.size, 2, none⟩ = some (.string v.str) := hr1.cell 2
  have hz1 := hr1.lt
  simp only at HV
  clear h hi hi1 hgr hr1 hT1
  generalize (vs (t.L - 1))[p] = z at *
  generalize t.steps = st at *
  obtain ⟨q, hq⟩ : ∃ q, q = RL.cmpV z v := ⟨_, rfl⟩
  rw [← hq] at HCMP
  rw [← hq]
  clear hq
  go_enter Try.func104, Try.ntmps104
  go_wp2
  rw [show (st : Int) + 1 = ((st + 1 : Nat) : Int) by omega, ← hW1]
  clear hW1
  go_region_held3 (fun w' => w'.cell? ⟨w.heap.size, 0, none⟩ = some (.int .i64 v.kind) ∧ w'.cell? ⟨w.heap.size, 1, none⟩ = some (.int .i64 v.int) ∧ w'.cell? ⟨w.heap.size, 2, none⟩ = some (.string v.str)) (first | exact KEEP2 | exact KEEP | exact ⟨n0, n1, n2⟩ | go_keep)
    (first
      | (go_at_call 84; refine (HCMP.out w2).mono ?_; rintro e w3 ⟨rfl, hx⟩
         have HB3 := Lib.hid (Below.then HB2.out hx.below HB2.out.size)
         have KEEP2 : w3.cell? ⟨w.heap.size, 0, none⟩ = some (.int .i64 v.kind) ∧ w3.cell? ⟨w.heap.size, 1, none⟩ = some (.int .i64 v.int) ∧ w3.cell? ⟨w.heap.size, 2, none⟩ = some (.string v.str) := ⟨(HR1.out.up HB3.out).cell 0, (HR1.out.up HB3.out).cell 1, (HR1.out.up HB3.out).cell 2⟩
         clear hx)
      | (go_at_call 90; refine HV.out.mono ?_; rintro e w2 ⟨rfl, hb0⟩
         have hb := Below.undrew hb0
         have HB2 := Lib.hid hb
         have KEEP : w2.cell? ⟨w.heap.size, 0, none⟩ = some (.int .i64 v.kind) ∧ w2.cell? ⟨w.heap.size, 1, none⟩ = some (.int .i64 v.int) ∧ w2.cell? ⟨w.heap.size, 2, none⟩ = some (.string v.str) := ⟨(HR1.out.up hb).cell 0, (HR1.out.up hb).cell 1, (HR1.out.up hb).cell 2⟩
         clear hb hb0)
      | fail)
  all_goals
    go_wp2
    go_ret
    exact ⟨rfl, HI1.out.up HB3.out, grown_below HGR.out HB3.out HGR.out.size⟩

end Go.Proofs.Ytiomelogggilgaa
end

section
/- Walks: Key, Next, Up, Iter. -/
namespace Go.Proofs.Ytiomelogggilgaa
open Go.RowKit Go.Sort

/-- The iterator stands on a value. -/
def onV (t : It) : Bool := decide (0 < t.L) && decide (t.pos < t.fin)
theorem onV_true {t : It} : onV t = true ↔ 0 < t.L ∧ t.pos < t.fin := by simp [onV]
theorem tiOnV_any (g : Nat) (LA : Option Addr) (d C : Nat) (t : It) (w : World) (h : ItM w g LA d C t) : Calls Try.prog 87 #[.pointer (some ⟨g, 0, none⟩)] w fun e w' => e = .returned (.bool (onV t)) ∧ Ext w w' := tiOnValue_any g LA d C t w h
/-- What an iterator keeps. -/
def ItOk (d : Nat) (vs : Nat → RL.R) (t : It) : Prop := t.L ≤ d ∧ (0 < t.L → t.fin ≤ (vs (t.L - 1)).length ∧ (vs (t.L - 1)).length ≤ 1000000)

theorem tiKey_nil (w : World) : Calls Try.prog 78 #[.pointer none] w fun e w' => e = .returned (.tuple #[vv ⟨0, 0, ⟨#[]⟩⟩, .bool false]) ∧ Below w.heap.size w w' := by
  have HC := Lib.hid (fun W => tiOnValue_nil W)
  obtain ⟨W0, hW0⟩ : ∃ W0, W0 = w.alloc (.cells #[.int .i64 0, .int .i64 0, .string ⟨#[]⟩] 41) := ⟨_, rfl⟩
  have hrow : Row W0 w.heap.size 41 [.int .i64 0, .int .i64 0, .string ⟨#[]⟩] := by rw [hW0]; exact Row.new w 41 [.int .i64 0, .int .i64 0, .string ⟨#[]⟩]
  have he : Ext w W0 := by rw [hW0]; exact (Ext.refl w).alloc _
  have HROW := Lib.hid hrow
  have HE := Lib.hid he
  clear hrow he
  go_enter Try.func78, Try.ntmps78
  go_wp2_with fail
  rw [← hW0]
  clear hW0
  refine (HC.out W0).mono ?_
  rintro e w1 ⟨rfl, hx⟩
  have hr := HROW.out.up hx.below
  have r0 := hr.cell 0
  have r1 := hr.cell 1
  have r2 := hr.cell 2
  have f0 := hr.frozen 0
  have f1 := hr.frozen 1
  have f2 := hr.frozen 2
  simp only [List.getElem?_cons_zero, List.getElem?_cons_succ] at r0 r1 r2
  have HB := Lib.hid (HE.out.trans hx).below
  clear hr hx
  go_wp2
  refine bodyPost_ret (v := .tuple #[vv ⟨0, 0, ⟨#[]⟩⟩, .bool false]) (by simp [results, Try.results78, go_sem, r0, r1, r2]) rfl ⟨rfl, ?_⟩
  exact ((HB.out.setCell (p := ⟨w.heap.size, 0, none⟩) (Nat.le_refl _) _).setCell (p := ⟨w.heap.size, 1, none⟩) (Nat.le_refl _) _).setCell (p := ⟨w.heap.size, 2, none⟩) (Nat.le_refl _) _

set_option maxHeartbeats 400000 in
theorem tiKey_no (g : Nat) (LA : Option Addr) (d C : Nat) (t : It) (w : World) (hi : ItM w g LA d C t) (hn : onV t = false) :
    Calls Try.prog 78 #[.pointer (some ⟨g, 0, none⟩)] w fun e w' => e = .returned (.tuple #[vv ⟨0, 0, ⟨#[]⟩⟩, .bool false]) ∧ Below w.heap.size w w' := by
  obtain ⟨W0, hW0⟩ : ∃ W0, W0 = w.alloc (.cells #[.int .i64 0, .int .i64 0, .string ⟨#[]⟩] 41) := ⟨_, rfl⟩
  have hrow : Row W0 w.heap.size 41 [.int .i64 0, .int .i64 0, .string ⟨#[]⟩] := by rw [hW0]; exact Row.new w 41 [.int .i64 0, .int .i64 0, .string ⟨#[]⟩]
  have he : Ext w W0 := by rw [hW0]; exact (Ext.refl w).alloc _
  have HC := Lib.hid (tiOnValue_any g LA d C t W0 (hi.ext he))
  rw [show (decide (0 < t.L) && decide (t.pos < t.fin)) = false from hn] at HC
  have HROW := Lib.hid hrow
  have HE := Lib.hid he
  clear hrow he hi hn
  go_enter Try.func78, Try.ntmps78
  go_wp2_with fail
  rw [← hW0]
  clear hW0
  refine HC.out.mono ?_
  rintro e w1 ⟨rfl, hx⟩
  have hr := HROW.out.up hx.below
  have r0 := hr.cell 0
  have r1 := hr.cell 1
  have r2 := hr.cell 2
  have f0 := hr.frozen 0
  have f1 := hr.frozen 1
  have f2 := hr.frozen 2
  simp only [List.getElem?_cons_zero, List.getElem?_cons_succ] at r0 r1 r2
  have HB := Lib.hid (HE.out.trans hx).below
  clear hr hx
  go_wp2
  refine bodyPost_ret (v := .tuple #[vv ⟨0, 0, ⟨#[]⟩⟩, .bool false]) (by simp [results, Try.results78, go_sem, r0, r1, r2]) rfl ⟨rfl, ?_⟩
  exact ((HB.out.setCell (p := ⟨w.heap.size, 0, none⟩) (Nat.le_refl _) _).setCell (p := ⟨w.heap.size, 1, none⟩) (Nat.le_refl _) _).setCell (p := ⟨w.heap.size, 2, none⟩) (Nat.le_refl _) _

set_option maxHeartbeats 1000000 in
theorem tiKey_yes (B g : Nat) (LA : Option Addr) (d C : Nat) (vs : Nat → RL.R) (fs : Nat → List Nat) (t : It) (w : World) (h : TrM B w LA d vs fs) (hB : B ≤ w.heap.size) (hi : ItM w g LA d C t) (hd : d ≤ 1000000) (hn : onV t = true) (hok : ItOk d vs t) (hp : t.pos < (vs (t.L - 1)).length) :
    Calls Try.prog 78 #[.pointer (some ⟨g, 0, none⟩)] w fun e w' => e = .returned (.tuple #[vv (vs (t.L - 1))[t.pos], .bool true]) ∧ Below w.heap.size w w' := by
  obtain ⟨hL, -⟩ := onV_true.1 hn
  obtain ⟨W0, hW0⟩ : ∃ W0, W0 = w.alloc (.cells #[.int .i64 0, .int .i64 0, .string ⟨#[]⟩] 41) := ⟨_, rfl⟩
  have hrow : Row W0 w.heap.size 41 [.int .i64 0, .int .i64 0, .string ⟨#[]⟩] := by rw [hW0]; exact Row.new w 41 [.int .i64 0, .int .i64 0, .string ⟨#[]⟩]
  have he : Ext w W0 := by rw [hW0]; exact (Ext.refl w).alloc _
  have HC := Lib.hid (tiOnValue_any g LA d C t W0 (hi.ext he))
  rw [show (decide (0 < t.L) && decide (t.pos < t.fin)) = true from hn] at HC
  have HV := Lib.hid (fun (W : World) (hx : Ext W0 W) => tiValue_any B g LA d C vs fs t t.pos W (h.below (he.trans hx).below hB) (Nat.le_trans hB (he.trans hx).size) (hi.ext (he.trans hx)) hd hL hok.1 hp (hok.2 hL).2)
  have HI := Lib.hid (hi.ext he)
  have HROW := Lib.hid hrow
  have HE := Lib.hid he
  clear hrow he hi hn hok h
  generalize (vs (t.L - 1))[t.pos] = z at *
  go_enter Try.func78, Try.ntmps78
  go_wp2_with fail
  rw [← hW0]
  clear hW0
  refine HC.out.mono ?_
  rintro e w1 ⟨rfl, hx⟩
  have c2 := (HI.out.ext hx).c2
  have HX := Lib.hid hx
  clear hx
  go_wp2_with fail
  refine (HV.out w1 HX.out).mono ?_
  rintro e w2 ⟨rfl, hb⟩
  have hr := (HROW.out.up HX.out.below).up hb
  have r0 := hr.cell 0
  have r1 := hr.cell 1
  have r2 := hr.cell 2
  have f0 := hr.frozen 0
  have f1 := hr.frozen 1
  have f2 := hr.frozen 2
  simp only [List.getElem?_cons_zero, List.getElem?_cons_succ] at r0 r1 r2
  have HB := Lib.hid (Below.then (HE.out.trans HX.out).below hb (HE.out.trans HX.out).size)
  have HR := Lib.hid hr
  clear hr hb c2
  go_wp2
  refine bodyPost_ret (v := .tuple #[vv z, .bool true]) ?_ rfl ⟨rfl, ?_⟩
  · have z0 := (HR.out.set 0 (.int .i64 z.kind)).cell 0
    have z1 := ((HR.out.set 0 (.int .i64 z.kind)).set 1 (.int .i64 z.int)).cell 1
    have z2 := (((HR.out.set 0 (.int .i64 z.kind)).set 1 (.int .i64 z.int)).set 2 (.string z.str)).cell 2
    simp only [List.set_cons_zero, List.set_cons_succ, List.getElem?_cons_zero, List.getElem?_cons_succ] at z0 z1 z2
    simp [results, Try.results78, go_sem, z0, z1, z2]
  · exact ((HB.out.setCell (p := ⟨w.heap.size, 0, none⟩) (Nat.le_refl _) _).setCell (p := ⟨w.heap.size, 1, none⟩) (Nat.le_refl _) _).setCell (p := ⟨w.heap.size, 2, none⟩) (Nat.le_refl _) _

theorem tiNext_nil (w : World) : Calls Try.prog 77 #[.pointer none] w fun e w' => e = .returned (.bool false) ∧ Ext w w' := by
  have HC := Lib.hid (tiOnValue_nil w)
  go_enter Try.func77, Try.ntmps77
  go_wp2_with fail
  refine HC.out.mono ?_
  rintro e w1 ⟨rfl, hx⟩
  go_wp2
  go_ret
  exact ⟨rfl, hx⟩
theorem tiNext_no (g : Nat) (LA : Option Addr) (d C : Nat) (t : It) (w : World) (hi : ItM w g LA d C t) (hn : onV t = false) :
    Calls Try.prog 77 #[.pointer (some ⟨g, 0, none⟩)] w fun e w' => e = .returned (.bool false) ∧ Ext w w' := by
  have HC := Lib.hid (tiOnValue_any g LA d C t w hi)
  rw [show (decide (0 < t.L) && decide (t.pos < t.fin)) = false from hn] at HC
  clear hi hn
  go_enter Try.func77, Try.ntmps77
  go_wp2_with fail
  refine HC.out.mono ?_
  rintro e w1 ⟨rfl, hx⟩
  go_wp2
  go_ret
  exact ⟨rfl, hx⟩
theorem tiNext_yes (g : Nat) (LA : Option Addr) (d C : Nat) (t : It) (w : World) (hi : ItM w g LA d C t) (hn : onV t = true) (hm : t.fin ≤ 1000000) :
    Calls Try.prog 77 #[.pointer (some ⟨g, 0, none⟩)] w fun e w' => e = .returned (.bool (onV { t with pos := t.pos + 1 })) ∧ ItM w' g LA d C { t with pos := t.pos + 1 } ∧ w.grownBy w' (some g) := by
  have hlt := (onV_true.1 hn).2
  have HC := Lib.hid (tiOnValue_any g LA d C t w hi)
  rw [show (decide (0 < t.L) && decide (t.pos < t.fin)) = true from hn] at HC
  have HC2 := Lib.hid (fun (W : World) (h : ItM W g LA d C { t with pos := t.pos + 1 }) => tiOnV_any g LA d C { t with pos := t.pos + 1 } W h)
  have HI := Lib.hid hi
  clear hi hn
  obtain ⟨q, hq⟩ : ∃ q, q = onV { t with pos := t.pos + 1 } := ⟨_, rfl⟩
  rw [← hq] at HC2
  rw [← hq]
  clear hq
  go_enter Try.func77, Try.ntmps77
  go_wp2_with fail
  refine HC.out.mono ?_
  rintro e w1 ⟨rfl, hx⟩
  have hi1 := HI.out.ext hx
  have c2 := hi1.c2
  have f2 := hi1.fr 2
  have HI1 := Lib.hid (hi1.setPos (t.pos + 1))
  have HX := Lib.hid hx
  clear hi1 hx
  go_wp2_with fail
  rw [show ((t.pos : Int) + 1) = ((t.pos + 1 : Nat) : Int) by omega]
  refine (HC2.out _ HI1.out).mono ?_
  rintro e w2 ⟨rfl, hx2⟩
  have HX2 := Lib.hid hx2
  clear hx2 c2 f2
  go_wp2
  go_ret
  exact ⟨rfl, HI1.out.ext HX2.out, grown_trans (HX.out.grown _) (grown_trans (grown_set w1 g 2 _) (HX2.out.grown _))⟩

end Go.Proofs.Ytiomelogggilgaa
end

/- LeapfrogMeets: the atoms, the meeting of two relations, the contracts at these atoms. -/
import Derived.Test.YtiomelogggilgaaQ14
import Derived.Test.YtiomelogggilgaaHY43
import Derived.Test.YtiomelogggilgaaHV28
namespace Go.Proofs.Ytiomelogggilgaa
open Go.RowKit Go.Sort

/-- The rows that are in both. -/
def bothPQ (P Q : List RL.R) : List RL.R := P.filter fun x => decide (x ∈ Q) == true
theorem mem_bothPQ {P Q : List RL.R} (r : RL.R) : r ∈ bothPQ P Q ↔ r ∈ P ∧ r ∈ Q := by unfold bothPQ; simp
theorem bothPQ_len (P Q : List RL.R) : (bothPQ P Q).length ≤ P.length := List.length_filter_le _ _
theorem rlMeet_any (P : Nat → Prop) (n : Int) (RA YA : Option Addr) (RC YC : Nat) (X Y : List RL.R) (w : World) (hX : SlRsP P w.heap.size w RA X) (hY : SlRsP P w.heap.size w YA Y) (hPn : ∀ b, w.heap.size ≤ b → P b) (hXo : RsOk X) (hYo : RsOk Y) (hXl : X.length ≤ 60000) (hYl : Y.length ≤ 60000) (hXS : RL.SS X) (hYS : RL.SS Y) (hYc : Y.length ≤ YC) (hYm : YC ≤ 9223372036854775807) :
    Calls Try.prog 27 #[.agg #[.int .i64 n, .slice RA X.length RC], .agg #[.int .i64 n, .slice YA Y.length YC]] w fun e w' => ∃ A C, e = .returned (.tuple #[.agg #[.int .i64 n, .slice A (bothPQ X Y).length C], .int .i64 0]) ∧ (bothPQ X Y).length ≤ C ∧ C ≤ 9223372036854775807 ∧ SlRsP P w'.heap.size w' A (bothPQ X Y) ∧ Below w.heap.size w w' := by
  refine (rlIntersect_P P n RA YA RC YC X Y w hX hY hPn hXo hYo hXl hYl hXS hYS hYc hYm).mono ?_
  rintro e w' ⟨v, rfl, ⟨A, C, rfl, h1, h2, h3⟩, hb⟩
  exact ⟨A, C, rfl, h1, h2, h3, hb⟩
theorem sl_set2 {w : World} {b : Nat} {A : Option Addr} {X : List RL.R} (h : SlRsP (fun x => x ≠ b) w.heap.size w A X) (u v : Value) : SlRs ((w.setCell ⟨b, 0, none⟩ u).setCell ⟨b, 1, none⟩ v).heap.size ((w.setCell ⟨b, 0, none⟩ u).setCell ⟨b, 1, none⟩ v) A X := by
  have e : ((w.setCell ⟨b, 0, none⟩ u).setCell ⟨b, 1, none⟩ v).heap.size = w.heap.size := by simp
  rw [e]
  exact (h.keep (fun p _ hp => by rw [World.cell?_setCell_other _ _ _ _ (by rintro rfl; exact hp rfl), World.cell?_setCell_other _ _ _ _ (by rintro rfl; exact hp rfl)])).sl

/-- An atom over the variables of a byte, its rows as they were. -/
def laV (v : Nat) (a : LA) : LA := ⟨v, a.R, 0⟩
theorem vK7 : varsK 7 8 = [0, 1, 2] := by decide
theorem la7_d (a : LA) : (laV 7 a).d = 3 := by show (varsK 7 8).length = 3; rw [vK7]; rfl
theorem la7_ra (a : LA) : (laV 7 a).ra = at012 (laV 7 a).rows := by
  unfold LA.ra
  rw [la7_d]
  show RA.mk (badV 0 (ints (varsK 7 8))) _ _ = _
  rw [vK7]
  rfl
theorem vK8 : ∀ v, v < 8 → (varsK v 8).length ≤ 4 := by decide
theorem laV_ok {v : Nat} (hv : v < 8) (a : LA) : (laV v a).Ok ↔ a.R.length ≤ 12 := ⟨fun h => h.2, fun h => ⟨vK8 v hv, h⟩⟩
theorem and7 (n : Nat) : n &&& 7 = n % 8 := Nat.and_two_pow_sub_one_eq_mod n 3
theorem bits7 {n : Nat} (h : n < 256) : bits BinOp.and IntKind.u8 (n : Int) 7 = ((n % 8 : Nat) : Int) := by
  have : ∀ n, n < 256 → bits BinOp.and IntKind.u8 ((n : Nat) : Int) 7 = ((n % 8 : Nat) : Int) := by decide +kernel
  exact this n h
/-- What Made leaves of two atoms over the same variables. -/
def Made2P (w : World) (v : Nat) (a b : LA) (e : Ending) (w' : World) : Prop :=
  Below w.heap.size w w' ∧ ((¬ (a.R.length ≤ 12 ∧ b.R.length ≤ 12) → e = .returned (.tuple #[.slice none 0 0, .slice none 0 0, .slice none 0 0, .bool false])) ∧ (a.R.length ≤ 12 ∧ b.R.length ≤ 12 → ∃ (A1 A2 A3 : Option Addr) (C1 C2 C3 : Nat), e = .returned (.tuple #[.slice A1 2 C1, .slice A2 2 C2, .slice A3 2 C3, .bool true]) ∧
    AtsM w'.heap.size w' A1 [(laV v a).ra, (laV v b).ra] ∧ Small (laV v a).ra ∧ Small (laV v b).ra))
theorem made2_any {v : Nat} (hv : v < 8) (a b : LA) (RA RB : Option Addr) (CA CB : Nat) (w : World) (hA : SlA 4 w.heap.size w RA a.R) (hB : SlA 4 w.heap.size w RB b.R) (yA : Bytes a.R) (yB : Bytes b.R) :
    Calls Try.prog 10 #[.slice (some ⟨w.heap.size, 0, none⟩) 2 2] (w.alloc (.cells #[.int .u8 (v : Nat), .slice RA a.R.length CA, .int .u8 0, .int .u8 (v : Nat), .slice RB b.R.length CB, .int .u8 0] 72)) (Made2P (w.alloc (.cells #[.int .u8 (v : Nat), .slice RA a.R.length CA, .int .u8 0, .int .u8 (v : Nat), .slice RB b.R.length CB, .int .u8 0] 72)) v a b) := by
  have hr := Row.new w 72 [.int .u8 (v : Nat), .slice RA a.R.length CA, .int .u8 0, .int .u8 (v : Nat), .slice RB b.R.length CB, .int .u8 0]
  have hx : Ext w (w.alloc (.cells #[.int .u8 (v : Nat), .slice RA a.R.length CA, .int .u8 0, .int .u8 (v : Nat), .slice RB b.R.length CB, .int .u8 0] 72)) := (Ext.refl w).alloc _
  generalize (w.alloc (.cells #[.int .u8 (v : Nat), .slice RA a.R.length CA, .int .u8 0, .int .u8 (v : Nat), .slice RB b.R.length CB, .int .u8 0] 72)) = W at hr hx ⊢
  have h := l35Made_any (some ⟨w.heap.size, 0, none⟩) 2 [laV v a, laV v b] W (fun _ => ⟨w.heap.size, 0, rfl, hr.lt, fun i hi => by
    match i, hi with
    | 0, _ => exact ⟨RA, CA, hr.cell 0, hr.cell 1, hr.cell 2, (hA.keep fun p hp => hx.below.cell hp).more hx.size⟩
    | 1, _ => exact ⟨RB, CB, hr.cell 3, hr.cell 4, hr.cell 5, (hB.keep fun p hp => hx.below.cell hp).more hx.size⟩⟩)
    (fun x hx => by
      simp at hx
      rcases hx with rfl | rfl
      · exact ⟨by show v < 256; omega, by show 0 < 256; omega, yA⟩
      · exact ⟨by show v < 256; omega, by show 0 < 256; omega, yB⟩) (by simp)
  refine h.mono ?_
  rintro e w' ⟨h1, h2, hb⟩
  have hok : (∀ x ∈ [laV v a, laV v b], x.Ok) ↔ (a.R.length ≤ 12 ∧ b.R.length ≤ 12) := by simp [laV_ok hv]
  refine ⟨hb, fun hn => h2 fun h => hn (hok.1 h), fun hy => ?_⟩
  have hy' := hok.2 hy
  obtain ⟨A1, C1, A2, C2, A3, C3, he, c1, d1, -, -, -, -, ha, -, -⟩ := h1 hy'
  have hs := LA.smalls hy'
  exact ⟨A1, A2, A3, C1, C2, C3, he, ha, hs _ (by simp), hs _ (by simp)⟩
theorem vK3 : varsK 3 8 = [0, 1] := by decide
theorem la3_ra (R : List (List Nat)) : (⟨3, R, 0⟩ : LA).ra = ⟨ints [0, 1], 2, RL.ofF (R.map (rowI 2))⟩ := by
  have hd : (⟨3, R, 0⟩ : LA).d = 2 := by show (varsK 3 8).length = 2; rw [vK3]; rfl
  unfold LA.ra LA.rows
  rw [hd]
  show RA.mk (badV 0 (ints (varsK 3 8))) _ _ = _
  rw [vK3]
  rfl
theorem small34 (R : List (List Nat)) (hl : R.length ≤ 12) : Small (at34 (RL.ofF (R.map (rowI 2)))) := by
  have h := LA.smalls (l := [⟨3, R, 0⟩]) (fun a ha => by simp at ha; subst ha; exact ⟨by show (varsK 3 8).length ≤ 4; decide, hl⟩) (LA.ra ⟨3, R, 0⟩) (by simp)
  rw [la3_ra] at h
  exact ⟨h.ss, h.len, by show (2 : Int) ≤ 1000; decide, h.many, by show (ints [3, 4]).length ≤ 1000; decide, h.I⟩
theorem e012 (n : Int) (P : List RL.R) : errAt n (at012 P) = errAt n (at012 []) := rfl
theorem e34 (n : Int) (P : List RL.R) : errAt n (at34 P) = errAt n (at34 []) := rfl
theorem in012 (P : List RL.R) : ∀ v : Nat, v < 3 → (v : Int) ∈ (at012 P).vs := by show ∀ v : Nat, v < 3 → (v : Int) ∈ ints [0, 1, 2]; decide
theorem in34 (P : List RL.R) : (3 : Int) ∈ (at34 P).vs ∧ (4 : Int) ∈ (at34 P).vs := by show (3 : Int) ∈ ints [3, 4] ∧ (4 : Int) ∈ ints [3, 4]; decide
theorem e0123 : errAt 3 (at012 []) = 0 ∧ errAt 5 (at012 []) = 0 ∧ errAt 5 (at34 []) = 0 := by decide
theorem good012 (P Q : List RL.R) : errA 3 [at012 P, at012 Q] = 0 :=
  errA_of (m := 3) (by omega) (by simp) (fun a ha => by simp at ha; rcases ha with rfl | rfl <;> (show errAt 3 _ = 0; rw [e012]; exact e0123.1)) fun v hv => ⟨at012 P, by simp, in012 P v hv⟩
theorem good1 (P : List RL.R) : errA 3 [at012 P] = 0 :=
  errA_of (m := 3) (by omega) (by simp) (fun a ha => by simp at ha; subst ha; show errAt 3 _ = 0; rw [e012]; exact e0123.1) fun v hv => ⟨at012 P, by simp, in012 P v hv⟩
theorem good5 (P Q : List RL.R) : errA 5 [at012 P, at34 Q] = 0 :=
  errA_of (m := 5) (by omega) (by simp) (fun a ha => by
    simp at ha
    rcases ha with rfl | rfl
    · show errAt 5 _ = 0; rw [e012]; exact e0123.2.1
    · show errAt 5 _ = 0; rw [e34]; exact e0123.2.2) fun v hv => by
    by_cases h : v < 3
    · exact ⟨at012 P, by simp, in012 P v h⟩
    · refine ⟨at34 Q, by simp, ?_⟩
      rcases Nat.lt_or_ge v 4 with h4 | h4
      · obtain rfl : v = 3 := by omega
        exact (in34 Q).1
      · obtain rfl : v = 4 := by omega
        exact (in34 Q).2
theorem small012 {P M : List RL.R} (h : Small (at012 P)) (hs : RL.SS M) (hm : ∀ r ∈ M, r ∈ P) (hl : M.length ≤ P.length) : Small (at012 M) :=
  ⟨hs, fun r hr => h.len r (hm r hr), h.ar, Nat.le_trans hl h.many, h.vl, fun r hr => h.I r (hm r hr)⟩

theorem ats_one {w : World} {b1 b2 PC : Nat} {l : List Nat} {ar : Int} {PA : Option Addr} {P : List RL.R} (h1 : Row w b1 3 ((ints l).map (Value.int .i64))) (h2 : Row w b2 52 [.slice (some ⟨b1, 0, none⟩) l.length l.length, .int .i64 ar, .slice PA P.length PC]) (hl : l.length ≤ 1000) (hc : P.length ≤ PC) (hm : PC ≤ 9223372036854775807) (hP : SlRs w.heap.size w PA P) :
    AtsM w.heap.size w (some ⟨b2, 0, none⟩) [⟨ints l, ar, P⟩] := fun _ => ⟨b2, 0, rfl, h2.lt, fun i hi => by
  have hi0 : i = 0 := by simp at hi; exact hi
  subst hi0
  have e : (ints l).length = l.length := by simp [ints]
  exact ⟨some ⟨b1, 0, none⟩, l.length, PA, PC, by show _ = some (Value.slice _ (ints l).length _); rw [e]; exact h2.cell 0, h2.cell 1, h2.cell 2, by show (ints l).length ≤ _; omega, by omega, hc, hm, h1.sl, hP⟩⟩
theorem ats_two {w : World} {b1 b2 PC QC VC : Nat} {l : List Nat} {ar : Int} {VA PA QA : Option Addr} {a : RA} {Q : List RL.R} (h1 : Row w b1 3 ((ints l).map (Value.int .i64))) (h2 : Row w b2 52 [.slice VA a.vs.length VC, .int .i64 a.ar, .slice PA a.P.length PC, .slice (some ⟨b1, 0, none⟩) l.length l.length, .int .i64 ar, .slice QA Q.length QC])
    (v1 : a.vs.length ≤ VC) (v2 : VC ≤ 9223372036854775807) (p1 : a.P.length ≤ PC) (p2 : PC ≤ 9223372036854775807) (sV : SlI .i64 w.heap.size w VA a.vs) (sP : SlRs w.heap.size w PA a.P) (hl : l.length ≤ 1000) (hc : Q.length ≤ QC) (hm : QC ≤ 9223372036854775807) (hQ : SlRs w.heap.size w QA Q) :
    AtsM w.heap.size w (some ⟨b2, 0, none⟩) [a, ⟨ints l, ar, Q⟩] := fun _ => ⟨b2, 0, rfl, h2.lt, fun i hi => by
  have e : (ints l).length = l.length := by simp [ints]
  match i, hi with
  | 0, _ => exact ⟨VA, VC, PA, PC, h2.cell 0, h2.cell 1, h2.cell 2, v1, v2, p1, p2, sV, sP⟩
  | 1, _ => exact ⟨some ⟨b1, 0, none⟩, l.length, QA, QC, by show _ = some (Value.slice _ (ints l).length _); rw [e]; exact h2.cell 3, h2.cell 4, h2.cell 5, by show (ints l).length ≤ _; omega, by omega, hc, hm, h1.sl, hQ⟩⟩
theorem map_snoc2 (k : Nat) (R : List (List Nat)) {i : Nat} (h : i < R.length) : (R.take (i + 1)).map (rowI k) = (R.take i).map (rowI k) ++ [rowI k R[i]] := by
  rw [List.take_succ_eq_append_getElem h, List.map_append]
  rfl
theorem mul_small {a b : Nat} (ha : a ≤ 60000) (hb : b ≤ 60000) : a * b ≤ 3600000000 := by
  have h := Nat.mul_le_mul_right b ha
  omega
theorem wraps_pq {a b pq : Nat} (h : pq = a * b) (hl : pq ≤ 3600000000) : IntKind.i64.wrap ((a : Int) * (b : Int)) = (pq : Int) ∧ wrap64 ((a : Int) * (b : Int)) = (pq : Int) ∧ IntKind.u64.wrap (pq : Int) = (pq : Int) ∧ pq < 4294967296 := by
  have e : (a : Int) * (b : Int) = (pq : Int) := by rw [h, Int.natCast_mul]
  rw [e]
  clear e h
  refine ⟨IntWalk.i64_in _ ⟨by omega, by omega⟩, IntWalk.wrap64_in _ ⟨by omega, by omega⟩, IntWalk.u64_in _ ⟨by omega, by omega⟩, by omega⟩
theorem rowI2 (t : List Nat) : rowI 2 t = [valI (t.getD 0 0), valI (t.getD 1 0)] := rfl

end Go.Proofs.Ytiomelogggilgaa

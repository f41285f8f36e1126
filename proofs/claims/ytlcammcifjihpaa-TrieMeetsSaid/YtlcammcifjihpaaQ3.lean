/- Parts of the proof, merged: K4, V13, V14, V21, RMem, TPlain, I1, E7, I9, I2, U1, E8. -/
import Derived.Test.YtlcammcifjihpaaQ2
import Derived.Outline
import Derived.StillTailTactics
import Derived.Test.YtlcammcifjihpaaQ1
import Derived.Deep.RegionHeld3
import Derived.IntWalk
import Derived.Deep.AppendLies

section
/- Walk: Rows of chapter 34's laws. -/
namespace Go.Proofs.Ytlcammcifjihpaa
open Go.RowKit Go.Sort

/-- The slice at address A reads as the arrays X of m bytes. -/
def SlA (m B : Nat) (w : World) (A : Option Addr) (X : List (List Nat)) : Prop :=
  X ≠ [] → ∃ b o, A = some ⟨b, o, none⟩ ∧ b < B ∧ ∀ i (h : i < X.length) k, k < m → w.cell? ⟨b, o + i * m + k, none⟩ = some (.int .u8 (X[i].getD k 0 : Nat))
theorem SlA.keep {m B : Nat} {w w' : World} {A : Option Addr} {X : List (List Nat)} (h : SlA m B w A X) (hk : ∀ p : Addr, p.block < B → w'.cell? p = w.cell? p) : SlA m B w' A X := fun hn => by
  obtain ⟨b, o, e, hb, hc⟩ := h hn
  exact ⟨b, o, e, hb, fun i hi k hkm => (hk _ hb).trans (hc i hi k hkm)⟩
theorem SlA.below {m B C : Nat} {w w' : World} {A : Option Addr} {X : List (List Nat)} (h : SlA m B w A X) (hb : Below C w w') (hC : B ≤ C) : SlA m B w' A X := h.keep fun _ hp => hb.cell (by omega)
theorem SlA.more {m B B' : Nat} {w : World} {A : Option Addr} {X : List (List Nat)} (h : SlA m B w A X) (hB : B ≤ B') : SlA m B' w A X := fun hn => by
  obtain ⟨b, o, e, hb, hc⟩ := h hn
  exact ⟨b, o, e, by omega, hc⟩
theorem SlA.upB {m : Nat} {w w' : World} {A : Option Addr} {X : List (List Nat)} (h : SlA m w.heap.size w A X) (hb : Below w.heap.size w w') : SlA m w'.heap.size w' A X := (h.below hb (Nat.le_refl _)).more hb.size
/-- The numbers are bytes. -/
def Bytes (X : List (List Nat)) : Prop := ∀ t ∈ X, ∀ k, t.getD k 0 < 256

/-- The first n values of a row of numbers. -/
def rowN (n : Nat) (t : List Nat) : RL.R := (List.range n).map fun k => valN (t.getD k 0)
theorem rowN_len (n : Nat) (t : List Nat) : (rowN n t).length = n := by simp [rowN]
theorem rowN_succ (k : Nat) (t : List Nat) : rowN (k + 1) t = rowN k t ++ [valN (t.getD k 0)] := by unfold rowN; rw [List.range_succ, List.map_append]; rfl

/-- A new slice of no elements in a block of its own. -/
theorem own_empty (w : World) (base : Nat) (e : TypeId) (size : Nat) (hb : base ≤ w.heap.size) : (w.alloc (.cells #[] e)).ownsRow base e size (.slice (some ⟨w.heap.size, 0, none⟩) 0 0) 0 [] :=
  ⟨by simp, .inr ⟨w.heap.size, 0, #[], rfl, hb, Row.new w e [], Nat.le_refl _, by simp [maxLen], by simp, by simp⟩⟩

set_option maxHeartbeats 4000000 in
set_option maxRecDepth 100000 in
theorem l34Rows_any (ar : Nat) (A : Option Addr) (C : Nat) (X : List (List Nat)) (w : World) (har : ar < 256) (hX : SlA 3 w.heap.size w A X) (hl : X.length ≤ 1000000) (hB : Bytes X) :
    Calls Try.prog 23 #[.agg #[.int .u8 ar, .slice A X.length C]] w fun e w' => ∃ v, e = .returned (.tuple #[.int .i64 (ar % 4 : Nat), v]) ∧ OwnRs w' (w.heap.size + 1) 47 v (X.map (rowN (ar % 4))) ∧ Below w.heap.size w w' := by
  have HX := Lib.hid hX
  have HBY := Lib.hid hB
  clear hX hB
  have HR0 := Lib.hid (Row.new w 24 [.int .u8 ar, .slice A X.length C])
  have HB0 := Lib.hid ((Below.refl w.heap.size w).alloc (Nat.le_refl _) (.cells #[.int .u8 ar, .slice A X.length C] 24))
  obtain ⟨n, hn⟩ : ∃ n : Nat, n = ar % 4 := ⟨_, rfl⟩
  have hm : ((ar : Int) % 4) = (n : Int) := by omega
  rw [← hn]
  have hn4 : n ≤ 3 := by omega
  clear hn
  go_enter Try.func23, Try.ntmps23
  go_wp2
  clear hm
  go_loopw [4, 6] (fun v m wr => ∃ i : Nat, i ≤ X.length ∧ m = .int .i64 i ∧ OwnRs wr (w.heap.size + 1) 47 v ((X.take i).map (rowN n)) ∧ Row wr w.heap.size 24 [.int .u8 ar, .slice A X.length C] ∧ Below w.heap.size w wr) (fun _ m _ => X.length - (intOf m).toNat)
  case atStart => exact ⟨0, Nat.zero_le _, rfl, OwnRs.nil _ _ _, HR0.out, HB0.out⟩
  case round =>
    obtain ⟨i, hia, rfl, hown, hrow, hb⟩ := hrel
    have HO := Lib.hid hown
    have HROW := Lib.hid hrow
    have HB := Lib.hid hb
    have hzr := hrow.lt
    have hzz := hb.size
    have p1 : wr.cell? ⟨w.heap.size, 1, none⟩ = some (.slice A X.length C) := hrow.cell 1
    clear hown hrow hb HR0 HB0
    by_cases h1 : i < X.length
    rotate_left
    · obtain rfl : i = X.length := by omega
      rw [List.take_length] at HO
      go_wp2
      go_ret2
      exact ⟨_, rfl, HO.out, HB.out⟩
    obtain ⟨wo, hwo⟩ : ∃ wo, wo = wr := ⟨_, rfl⟩
    subst hwo
    obtain ⟨b, o, hA, hbb, hcells⟩ := HX.out (by intro h0; rw [h0] at h1; simp at h1)
    have HCE := Lib.hid (fun k (hk : k < 3) => hcells i h1 k hk)
    have HTB : Hid (∀ k, X[i].getD k 0 < 256) := HBY.out _ (List.getElem_mem h1)
    have HTK : Hid ((X.take (i + 1)).map (rowN n) = (X.take i).map (rowN n) ++ [rowN n X[i]]) := by
      show _ = _
      rw [List.take_succ_eq_append_getElem h1, List.map_append]
      rfl
    subst hA
    clear hcells
    generalize X[i] = t at *
    have HE0 := Lib.hid (own_empty wo wo.heap.size 38 3 (Nat.le_refl _))
    go_wp2
    have hx0 : Below wo.heap.size wo (wo.alloc (.cells #[] 38)) := (Below.refl _ _).alloc (Nat.le_refl _) _
    have HX0 := Lib.hid hx0
    have hr0 : Row (wo.alloc (.cells #[] 38)) w.heap.size 24 [.int .u8 ar, .slice (some ⟨b, o, none⟩) X.length C] := HROW.out.up hx0
    have HR1 := Lib.hid hr0
    clear hx0 hr0 p1
    go_loopw [7, 8] (fun v m wr => ∃ k : Nat, k ≤ n ∧ m = .int .i64 k ∧ wr.ownsRow wo.heap.size 38 3 v k (rcells (rowN k t)) ∧ Below wo.heap.size wo wr) (fun _ m _ => n - (intOf m).toNat)
    case atStart => exact ⟨0, Nat.zero_le _, rfl, HE0.out, HX0.out⟩
    case round =>
      obtain ⟨k, hka, rfl, hown, hb⟩ := hrel
      have HOW := Lib.hid hown
      have HB2 := Lib.hid hb
      have hz2 := hb.size
      have p1 : wr.cell? ⟨w.heap.size, 1, none⟩ = some (.slice (some ⟨b, o, none⟩) X.length C) := (hb.cell (p := ⟨w.heap.size, 1, none⟩) hzr).trans (HROW.out.cell 1)
      clear hown hb HE0 HX0
      by_cases h2 : k < n
      rotate_left
      · obtain rfl : k = n := by omega
        obtain ⟨hkl, A1, C1, hu7, hc1, hm1, hs1, hb1⟩ := SlR.of_own HOW.out
        have HO1 := Lib.hid (HO.out.keep HB2.out)
        have hu4 : ∀ j, u4.ownBlock = some j → j < wo.heap.size := by obtain ⟨hs, q1, _⟩ := HO.out; exact own_lt q1
        have HNE : Hid (rowN k t ≠ [] → ∀ ad, A1 = some ad → u4.ownBlock ≠ some ad.block) := fun _ ad e e2 => by have h4 := hb1 ad e; have h5 := hu4 _ e2; omega
        have HS1 := Lib.hid (SlR.alloc1 hs1 (.cells #[.slice A1 (rowN k t).length C1] 47))
        have HO2 := Lib.hid (HO1.out.keep ((Below.refl wr.heap.size wr).alloc (Nat.le_refl _) (.cells #[.slice A1 (rowN k t).length C1] 47)))
        subst hu7
        have HB4 := Lib.hid (Below.then HB.out HB2.out hzz)
        have hlx : ((X.take i).map (rowN k)).length ≤ 1000000 := by simp; omega
        have HR2 : Hid (Row wr w.heap.size 24 [.int .u8 ar, .slice (some ⟨b, o, none⟩) X.length C]) := HROW.out.below HB2.out hzr
        have hzr2 := HR2.out.lt
        clear hkl hs1 hb1 p1 hu4
        go_wp2_with (at_builtin; refine app1Row rfl (.tmp 37) (.tmp 39) rfl (w.heap.size + 1) u4 ((X.take i).map (rowN k)) rfl HO2.out wr.heap.size A1 C1 (rowN k t) rfl (by go_simp) HS1.out hc1 hm1 HNE.out (by omega) (by simp; omega) ?_)
        intro v' w5 hown5 hg5
        have hv4 : ∀ j, u4.ownBlock = some j → w.heap.size + 1 ≤ j := HO2.out.base
        have HV4 := Lib.hid hv4
        have HOWN5 := Lib.hid hown5
        have HG5 := Lib.hid hg5
        clear hown5 hg5 hv4
        go_wp2
        go_roundw
        case rel =>
          refine ⟨i + 1, by omega, by go_num, by rw [HTK.out, List.map_take]; exact HOWN5.out, ?_, Below.then HB4.out (app_kept (fun j hj => by have := HV4.out j hj; omega) (by omega) HG5.out) (Nat.le_refl _)⟩
          exact (HR2.out.alloc _).grown HG5.out (fun e => by have := HV4.out _ e.symm; omega)
        case measure => simp [intOf]; omega
      have hk3 : k < 3 := by omega
      have c1 := ((HB2.out.cell (p := ⟨b, o + i * 3 + k, none⟩) (by show b < _; omega)).trans (HB.out.cell (p := ⟨b, o + i * 3 + k, none⟩) hbb)).trans (HCE.out k hk3)
      have HRS := Lib.hid (rowN_succ k t)
      have HVA := Lib.hid (fun W => l34Value_any (t.getD k 0) W (HTB.out k))
      generalize t.getD k 0 = q at *
      go_wp2_with fail
      refine (HVA.out _).mono ?_
      rintro e w2 ⟨rfl, hb2⟩
      have HO2 := Lib.hid (own_keep HOW.out hb2)
      have HB3 := Lib.hid (Below.then HB2.out hb2 hz2)
      have hz3 := hb2.size
      clear hb2 c1 p1
      go_wp2_with (at_builtin; refine app1V rfl (.tmp 26) (.tmp 35) rfl wo.heap.size u7 (rowN k t) rfl (by rw [rowN_len]; exact HO2.out.alloc _) w2.heap.size (valN q) rfl (by go_simp) (by go_simp) (by go_simp) (by rw [rowN_len]; omega) (by simp; omega) ?_)
      intro v' w5 hown5 hg5
      have HV7 : Hid (∀ j, u7.ownBlock = some j → wo.heap.size ≤ j) := fun j hj => own_base HO2.out hj
      simp only [rowN_len, ← HRS.out] at hown5
      have HOWN5 := Lib.hid hown5
      have HG5 := Lib.hid hg5
      clear hown5 hg5
      go_wp2
      go_roundw
      case rel => exact ⟨k + 1, by omega, by go_num, HOWN5.out, Below.then HB3.out (app_kept HV7.out (by omega) HG5.out) (Nat.le_refl _)⟩
      case measure => simp [intOf]; omega

end Go.Proofs.Ytlcammcifjihpaa
end

section
/- Walk: the laws' own made. -/
namespace Go.Proofs.Ytlcammcifjihpaa
open Go.RowKit Go.Sort

/-- The rows that a relation of arity n accepts. -/
def validR (n : Int) (X : List RL.R) : List RL.R := X.filter fun x => decide (wrongF n x = 0)
theorem validR_snoc (n : Int) (X : List RL.R) (k : Nat) (h : k < X.length) : validR n (X.take (k + 1)) = validR n (X.take k) ++ (if wrongF n X[k] = 0 then [X[k]] else []) := by
  unfold validR
  rw [List.take_succ_eq_append_getElem h, List.filter_append]
  by_cases hw : wrongF n X[k] = 0 <;> simp [hw]
theorem validR_err (n : Int) (X : List RL.R) : errF n (validR n X) = 0 := errF_zero.2 fun x hx => by
  unfold validR at hx
  rw [List.mem_filter] at hx
  simpa using hx.2
theorem validR_sub (n : Int) (X : List RL.R) : ∀ x ∈ validR n X, x ∈ X := fun _x hx => (List.mem_filter.1 hx).1
theorem validR_length (n : Int) (X : List RL.R) : (validR n X).length ≤ X.length := List.length_filter_le _ _

theorem RelIs.upB {w w' : World} {n : Int} {X : List RL.R} {v : Value} (h : RelIs w n X v) (hb : Below w.heap.size w w') : RelIs w' n X v := by
  obtain ⟨A, C, h1, h2, h3, h4⟩ := h
  exact ⟨A, C, h1, h2, h3, h4.upB hb⟩

theorem setCell_id {w : World} {a : Addr} {v : Value} (h : w.cell? a = some v) : w.setCell a v = w := by
  unfold World.cell? at h
  split at h
  · rename_i c t f hc
    split at h
    · cases h
    · rename_i hs
      have hcs : (if a.spot.isSome then c else c.setIfInBounds a.off v) = c := by
        rw [if_neg hs]
        apply Array.ext_getElem?
        intro j
        rw [Array.getElem?_setIfInBounds]
        split
        · rename_i e2; subst e2; split
          · rw [h]
          · rename_i h3; rw [Array.getElem?_eq_none (by omega)]
        · rfl
      have hh : (w.setCell a v).heap = w.heap := by
        apply Array.ext_getElem?
        intro i
        unfold World.setCell
        rw [Array.getElem?_modify]
        split
        · rename_i e
          subst e
          rw [hc]
          rw [if_neg hs] at hcs
          simp [hcs]
        · rfl
      have : w.setCell a v = { w with heap := (w.setCell a v).heap } := rfl
      rw [this, hh]
  · cases h

/-- A row of three cells and more does not lie in a block of two. -/
theorem SlR.not_pair {w : World} {A : Option Addr} {x : RL.R} {rb : Nat} {E : TypeId} {u0 u1 : Value} (h : SlR w.heap.size w A x) (hr : Row w rb E [u0, u1]) : x ≠ [] → ∀ ad, A = some ad → ad.block ≠ rb := fun hx ad e e2 => by
  cases x with
  | nil => exact hx rfl
  | cons v y =>
    obtain ⟨b, o, e', hb, _, _, c3⟩ := slR_at h (i := 0) (by simp)
    rw [e] at e'
    injection e' with e'
    subst e'
    simp only at e2
    subst e2
    rw [hr.cell] at c3
    simp at c3
theorem OwnRs.far {w : World} {B : Nat} {E : TypeId} {v : Value} {X : List RL.R} {rb i : Nat} {T : TypeId} {u0 u1 : Value} (h : OwnRs w B E v X) (hr : Row w rb T [u0, u1]) (hB : rb < B) (u : Value) : OwnRs (w.setCell ⟨rb, i, none⟩ u) B E v X := by
  have hbase := h.base
  obtain ⟨hs, h1, h2⟩ := h
  refine ⟨hs, own_far h1 (p := ⟨rb, i, none⟩) (fun e => by have := hbase _ e; simp only at this; omega) u, fun j hj => ?_⟩
  obtain ⟨A', C', g1, g2, g3, g4, g5⟩ := h2 j hj
  exact ⟨A', C', g1, g2, g3, g4.far (p := ⟨rb, i, none⟩) u (g4.not_pair hr), g5⟩

end Go.Proofs.Ytlcammcifjihpaa
end

section
/- Walk: row.Project. -/
namespace Go.Proofs.Ytlcammcifjihpaa
open Go.RowKit Go.Sort

def zV : RL.V := ⟨0, 0, ⟨#[]⟩⟩
/-- n zero values, as a new array holds them. (A plain definition: the walk does not look into it.) -/
def zerosV (n : Nat) : Array Value := (rcells (List.replicate n zV)).toArray
theorem rcells_set (L : RL.R) (k : Nat) (v : RL.V) (h : k < L.length) : rcells (L.set k v) = (((rcells L).set (k * 3) (.int .i64 v.kind)).set (k * 3 + 1) (.int .i64 v.int)).set (k * 3 + 2) (.string v.str) := by
  induction L generalizing k with
  | nil => simp at h
  | cons u L ih =>
    cases k with
    | zero => simp [rcells_cons, vcells]
    | succ k =>
      rw [List.set_cons_succ, rcells_cons, rcells_cons, ih k (by simpa using h)]
      rw [show (k + 1) * 3 = k * 3 + 1 + 1 + 1 by omega]
      simp [vcells]
theorem makeVals (n : Nat) (hn : n ≤ 1000000) (w : World) : (Instr.makeSlice 47 (.int .i64 (n : Int)) (.int .i64 (n : Int))).run Try.prog w = .ok (.slice (some ⟨w.heap.size, 0, none⟩) n n) (w.alloc (.cells (zerosV n) 38)) := by
  obtain ⟨i0, hi0, hz0, hz1, hz2⟩ := info_parts valInfo
  have := run_make (P := Try.prog) w 47 38 i0 _ Try.underlying47 hi0 hz0 .i64 .i64 n n (by omega) (by omega) (by rw [hz2]; omega) (by omega)
  rw [this, hz1]
  simp only [Int.toNat_natCast]
  have e : madeCells (Value.agg #[.int .i64 0, .int .i64 0, .string ⟨#[]⟩]).cells (n * 3) = zerosV n := by
    unfold madeCells zerosV
    apply Array.ext
    · simp [rcells_length]
    · intro i h1 h2
      have hi : i / 3 < n := by simp [rcells_length] at h2; omega
      obtain ⟨g1, g2, g3⟩ := rcells_get (List.replicate n zV) (i / 3) zV (by rw [List.getElem?_replicate, if_pos hi])
      have hm := Nat.div_add_mod i 3
      simp only [List.getElem_toArray]
      have h3 : i % 3 = 0 ∨ i % 3 = 1 ∨ i % 3 = 2 := by omega
      rcases h3 with h3 | h3 | h3
      · rw [show i / 3 * 3 = i by omega] at g1
        rw [List.getElem?_eq_some_iff] at g1
        obtain ⟨_, g1⟩ := g1
        rw [g1]
        simp [h3, Value.cells, zV]
      · rw [show i / 3 * 3 + 1 = i by omega] at g2
        rw [List.getElem?_eq_some_iff] at g2
        obtain ⟨_, g2⟩ := g2
        rw [g2]
        simp [h3, Value.cells, zV]
      · rw [show i / 3 * 3 + 2 = i by omega] at g3
        rw [List.getElem?_eq_some_iff] at g3
        obtain ⟨_, g3⟩ := g3
        rw [g3]
        simp [h3, Value.cells, zV]
  rw [e]

/-- The given columns of a row. -/
def projF (x : RL.R) (cs : List Int) : RL.R := cs.map fun c => x.getD c.toNat zV
theorem projF_length (x : RL.R) (cs : List Int) : (projF x cs).length = cs.length := by simp [projF]

theorem getD_at {x : RL.R} {c : Nat} (h : c < x.length) : x.getD (c : Int).toNat zV = x[c] := by simp [List.getD, h]

/-- The first k columns are laid. -/
def halfP (x : RL.R) (cs : List Int) (k : Nat) : RL.R := (projF x cs).take k ++ List.replicate (cs.length - k) zV
theorem halfP_length (x : RL.R) (cs : List Int) (k : Nat) (h : k ≤ cs.length) : (halfP x cs k).length = cs.length := by simp [halfP, projF_length]; omega
theorem halfP_set (x : RL.R) (cs : List Int) (k : Nat) (h : k < cs.length) : (halfP x cs k).set k (projF x cs)[k]! = halfP x cs (k + 1) := by
  have hk : k < (projF x cs).length := by rw [projF_length]; exact h
  unfold halfP
  rw [List.set_append_right _ _ (by simp; omega), List.take_succ_eq_append_getElem hk, List.append_assoc]
  congr 1
  have e : k - ((projF x cs).take k).length = 0 := by simp; omega
  rw [e, show cs.length - k = (cs.length - (k + 1)) + 1 by omega, List.replicate_succ]
  simp [hk]

set_option maxHeartbeats 2000000 in
set_option maxRecDepth 100000 in
theorem rwProject_ok (XA CA : Option Addr) (XC CC : Nat) (x : RL.R) (cs : List Int) (w : World) (hx : SlR w.heap.size w XA x) (hc : SlI .i64 w.heap.size w CA cs) (_hxl : x.length ≤ 1000000) (hcl : cs.length ≤ 1000000) (hv : ∀ c ∈ cs, 0 ≤ c ∧ c < x.length) :
    Calls Try.prog 55 #[.slice XA x.length XC, .slice CA cs.length CC] w fun e w' => e = .returned (.tuple #[.slice (some ⟨w.heap.size, 0, none⟩) cs.length cs.length, .int .i64 0]) ∧ Row w' w.heap.size 38 (rcells (projF x cs)) ∧ Below w.heap.size w w' := by
  have HX := Lib.hid hx
  have HC := Lib.hid hc
  have HV := Lib.hid hv
  have hmk := makeVals cs.length hcl
  clear hx hc hv
  go_enter Try.func55, Try.ntmps55
  go_wp2
  go_loop [11] (fun i => ∃ k : Nat, k ≤ cs.length ∧ i = .int .i64 k) (fun i => cs.length - (intOf i).toNat)
  case atStart => exact ⟨0, Nat.zero_le _, rfl⟩
  case round =>
    obtain ⟨k, hk, rfl⟩ := hrel
    by_cases h1 : k < cs.length
    · obtain ⟨b, o, rfl, hb, c1⟩ := slI_at HC.out h1
      obtain ⟨v1, v2⟩ := HV.out cs[k] (List.getElem_mem h1)
      generalize cs[k] = c at c1 v1 v2
      have n1 : ¬ c < 0 := by omega
      go_wp2
      go_round
      case rel => exact ⟨k + 1, by omega, by go_num⟩
      case measure => simp [intOf]; omega
    · go_wp2
      clear hmk
      have HR0 : Hid (Row (w.alloc (.cells (zerosV cs.length) 38)) w.heap.size 38 (rcells (halfP x cs 0))) := by
        show Row _ _ _ _
        have h := heap_alloc_new w (.cells (zerosV cs.length) 38)
        unfold Row halfP
        rw [h]
        simp [zerosV]
      go_loopw [34] (fun i wr => ∃ k : Nat, k ≤ cs.length ∧ i = .int .i64 k ∧ Row wr w.heap.size 38 (rcells (halfP x cs k)) ∧ Below w.heap.size w wr) (fun i _ => cs.length - (intOf i).toNat)
      case atStart => exact ⟨0, Nat.zero_le _, rfl, HR0.out, (Below.refl _ _).alloc (Nat.le_refl _) _⟩
      case round =>
        obtain ⟨j, hj, rfl, hrow, hbel⟩ := hrel
        have HR := Lib.hid hrow
        have HB := Lib.hid hbel
        by_cases h2 : j < cs.length
        · obtain ⟨b, o, rfl, hb, c1⟩ := slI_at HC.out h2
          obtain ⟨v1, v2⟩ := HV.out cs[j] (List.getElem_mem h2)
          have hp : (projF x cs)[j]! = x.getD cs[j].toNat zV := by
            rw [getElem!_pos _ _ (by rw [projF_length]; exact h2)]; simp [projF]
          have d1 := (hbel.cell (p := ⟨b, o + j, none⟩) hb).trans c1
          have HS := Lib.hid (halfP_set x cs j h2)
          have hlen := halfP_length x cs j (by omega)
          generalize cs[j] = c at c1 v1 v2 hp d1
          obtain ⟨q, rfl⟩ := Int.eq_ofNat_of_zero_le v1
          have hq : q < x.length := by omega
          rw [getD_at hq] at hp
          obtain ⟨b2, o2, rfl, hb2, e1, e2, e3⟩ := slR_at HX.out hq
          have g1 := (hbel.cell (p := ⟨b2, o2 + q * 3, none⟩) hb2).trans e1
          have g2 := (hbel.cell (p := ⟨b2, o2 + q * 3 + 1, none⟩) hb2).trans e2
          have g3 := (hbel.cell (p := ⟨b2, o2 + q * 3 + 2, none⟩) hb2).trans e3
          have hset := rcells_set (halfP x cs j) j x[q] (by omega)
          rw [hp] at HS
          rw [HS.out] at hset
          clear hp HS
          generalize hxq : x[q] = u at g1 g2 g3 hset
          have HSET := Lib.hid hset
          have hl3 : (rcells (halfP x cs j)).length = cs.length * 3 := by rw [rcells_length, hlen]
          obtain ⟨t0, r0⟩ : ∃ t, wr.cell? ⟨w.heap.size, j * 3, none⟩ = some t := ⟨_, hrow.cell_ (by omega)⟩
          obtain ⟨t1, r1⟩ : ∃ t, wr.cell? ⟨w.heap.size, j * 3 + 1, none⟩ = some t := ⟨_, hrow.cell_ (by omega)⟩
          obtain ⟨t2, r2⟩ : ∃ t, wr.cell? ⟨w.heap.size, j * 3 + 2, none⟩ = some t := ⟨_, hrow.cell_ (by omega)⟩
          have z0 := hrow.frozen (j * 3)
          have z1 := hrow.frozen (j * 3 + 1)
          have z2 := hrow.frozen (j * 3 + 2)
          have hzz := hbel.size
          have hzr := hrow.lt
          have HNEW := Lib.hid (((hrow.set (j * 3) (.int .i64 u.kind)).set (j * 3 + 1) (.int .i64 u.int)).set (j * 3 + 2) (.string u.str))
          have HBN := Lib.hid (((hbel.setCell (p := ⟨w.heap.size, j * 3, none⟩) (Nat.le_refl _) (.int .i64 u.kind)).setCell (p := ⟨w.heap.size, j * 3 + 1, none⟩) (Nat.le_refl _) (.int .i64 u.int)).setCell (p := ⟨w.heap.size, j * 3 + 2, none⟩) (Nat.le_refl _) (.string u.str))
          rw [← HSET.out] at HNEW
          clear hset hxq hrow hbel hlen hl3 c1 e1 e2 e3 HR HB HR0 HSET
          go_wp2
          go_roundw
          case rel => exact ⟨j + 1, by omega, by go_num, HNEW.out, HBN.out⟩
          case measure => simp [intOf]; omega
        · have HE : Hid (halfP x cs j = projF x cs) := by
            show _ = _
            unfold halfP
            rw [List.take_of_length_le (by rw [projF_length]; omega), show cs.length - j = 0 by omega]; simp
          rw [HE.out] at HR
          go_wp2
          go_ret2
          exact ⟨rfl, HR.out, hbel⟩

end Go.Proofs.Ytlcammcifjihpaa
end

section
/- Walks: relation's Select and SelectSame. -/
namespace Go.Proofs.Ytlcammcifjihpaa
open Go.RowKit Go.Sort

theorem cell_lt {w : World} {b o : Nat} {v : Value} (h : w.cell? ⟨b, o, none⟩ = some v) : b < w.heap.size := by
  rcases Nat.lt_or_ge b w.heap.size with hlt | hge
  · exact hlt
  · simp [World.cell?, Array.getElem?_eq_none hge] at h

/-- What Select answers as its error. -/
def selErr (n col op : Int) (v : RL.V) : Int := if 0 ≤ col ∧ col < n then (if op < 0 ∨ 5 < op then 2 else if RL.validV v = true then 0 else 4) else 3
/-- The rows that a selection keeps. -/
def selF (X : List RL.R) (c op : Int) (v : RL.V) : List RL.R := X.filter fun x => RL.holdsF op (RL.cmpV (x.getD c.toNat zV) v)
/-- What relation's Select leaves. -/
def SelPost (P : Nat → Prop) (w : World) (n : Int) (X : List RL.R) (col op : Int) (v : RL.V) (e : Ending) (w' : World) : Prop :=
  ∃ rv, e = .returned (.tuple #[rv, .int .i64 (selErr n col op v)]) ∧ (selErr n col op v ≠ 0 → rv = .agg #[.int .i64 0, .slice none 0 0]) ∧ (selErr n col op v = 0 → RelP P w' n (selF X col op v) rv) ∧ Below w.heap.size w w'

end Go.Proofs.Ytlcammcifjihpaa
end

section
/- Plain: membership in an ascending list whose first rows are known to be smaller; merging two ascending lists. -/
namespace Go.Proofs.Ytlcammcifjihpaa.RL

theorem mem_take_drop {Y : List R} (j : Nat) (x : R) : x ∈ Y ↔ x ∈ Y.take j ∨ x ∈ Y.drop j := by
  conv => lhs; rw [← List.take_append_drop j Y]
  exact List.mem_append
theorem mem_drop_head {Y : List R} (h : SS Y) {x : R} {j : Nat} (h1 : ∀ y ∈ Y.take j, cmpR y x < 0) (hj : j < Y.length) (h2 : 0 ≤ cmpR Y[j] x) : decide (x ∈ Y) = decide (Y[j] = x) := by
  rw [decide_eq_decide]
  constructor
  · intro hx
    rcases (mem_take_drop j x).1 hx with h3 | h3
    · have := h1 x h3
      rw [tot_cmpR.self] at this
      omega
    · obtain ⟨i, hi, rfl⟩ := List.getElem_of_mem h3
      simp only [List.length_drop] at hi
      rw [List.getElem_drop] at h2 ⊢
      rcases Nat.eq_zero_or_pos i with h0 | h0
      · subst h0; rfl
      · have := h.get (show j < j + i by omega) (by omega)
        omega
  · rintro rfl
    exact List.getElem_mem hj
theorem mem_drop_none {Y : List R} {x : R} {j : Nat} (h1 : ∀ y ∈ Y.take j, cmpR y x < 0) (hj : Y.length ≤ j) : decide (x ∈ Y) = false := by
  simp only [decide_eq_false_iff_not]
  intro hx
  rw [List.take_of_length_le hj] at h1
  have := h1 x hx
  rw [tot_cmpR.self] at this
  omega
theorem take_snoc_lt {Y : List R} {x : R} {j : Nat} (h1 : ∀ y ∈ Y.take j, cmpR y x < 0) (hj : j < Y.length) (h2 : cmpR Y[j] x < 0) : ∀ y ∈ Y.take (j + 1), cmpR y x < 0 := fun y hy => by
  rw [List.take_succ_eq_append_getElem hj, List.mem_append] at hy
  rcases hy with hy | hy
  · exact h1 y hy
  · rw [List.mem_singleton.1 hy]; exact h2
theorem below_next {X : List R} (h : SS X) {k : Nat} (hk : k < X.length) {y : R} (hy : cmpR y X[k] < 0) : ∀ x ∈ X.drop (k + 1), cmpR y x < 0 := fun x hx => by
  obtain ⟨i, hi, rfl⟩ := List.getElem_of_mem hx
  simp only [List.length_drop] at hi
  rw [List.getElem_drop]
  exact tot_cmpR.tr _ _ _ hy (h.get (by omega) (by omega))

/-- A merge under way: L holds the first k rows of X and the first j rows of Y, and all that is left is greater. -/
structure Merge (X Y : List R) (k j : Nat) (L : List R) : Prop where
  ss : SS L
  mem : ∀ r, r ∈ L ↔ r ∈ X.take k ∨ r ∈ Y.take j
  ltX : ∀ r ∈ L, ∀ s ∈ X.drop k, cmpR r s < 0
  ltY : ∀ r ∈ L, ∀ s ∈ Y.drop j, cmpR r s < 0
  kle : k ≤ X.length
  jle : j ≤ Y.length
  len : L.length ≤ k + j

theorem Merge.start (X Y : List R) : Merge X Y 0 0 [] := ⟨ss_nil, (fun r => by simp), (fun r h => by cases h), (fun r h => by cases h), Nat.zero_le _, Nat.zero_le _, Nat.le_refl _⟩
theorem ss_snoc {L : List R} (h : SS L) {y : R} (hy : ∀ r ∈ L, cmpR r y < 0) : SS (L ++ [y]) := by
  unfold SS
  rw [List.pairwise_append]
  exact ⟨h, List.pairwise_singleton _ _, fun a ha b hb => by rw [List.mem_singleton.1 hb]; exact hy a ha⟩
theorem mem_take_succ {Y : List R} {j : Nat} (hj : j < Y.length) (r : R) : r ∈ Y.take (j + 1) ↔ r ∈ Y.take j ∨ r = Y[j] := by
  rw [List.take_succ_eq_append_getElem hj, List.mem_append, List.mem_singleton]
theorem mem_drop_self {Y : List R} {j : Nat} (hj : j < Y.length) : Y[j] ∈ Y.drop j := by
  rw [List.drop_eq_getElem_cons hj]; exact List.mem_cons_self
theorem mem_drop_succ {Y : List R} {j : Nat} {s : R} (h : s ∈ Y.drop (j + 1)) : s ∈ Y.drop j := by
  rw [← List.drop_drop] at h
  exact List.mem_of_mem_drop h
/-- A row of Y that is less than the next row of X is taken. -/
theorem Merge.takeY {X Y L : List R} {k j : Nat} (m : Merge X Y k j L) (hX : SS X) (hY : SS Y) (hk : k < X.length) (hj : j < Y.length) (hlt : cmpR Y[j] X[k] < 0) : Merge X Y k (j + 1) (L ++ [Y[j]]) := by
  refine ⟨ss_snoc m.ss (fun r hr => m.ltY r hr _ (mem_drop_self hj)), fun r => ?_, fun r hr s hs => ?_, fun r hr s hs => ?_, m.kle, hj, ?_⟩
  · rw [List.mem_append, m.mem, List.mem_singleton, mem_take_succ hj, or_assoc]
  · rw [List.mem_append, List.mem_singleton] at hr
    rcases hr with hr | rfl
    · exact m.ltX r hr s hs
    · rw [List.drop_eq_getElem_cons hk, List.mem_cons] at hs
      rcases hs with rfl | hs
      · exact hlt
      · exact below_next hX hk hlt s hs
  · rw [List.mem_append, List.mem_singleton] at hr
    rcases hr with hr | rfl
    · exact m.ltY r hr s (mem_drop_succ hs)
    · obtain ⟨i, hi, rfl⟩ := List.getElem_of_mem hs
      simp only [List.length_drop] at hi
      rw [List.getElem_drop]
      exact hY.get (by omega) (by omega)
  · have := m.len; simp; omega
/-- The next row of X is taken, and the equal row of Y, if there is one, with it. -/
theorem Merge.takeX {X Y L : List R} {k j j' : Nat} (m : Merge X Y k j L) (hX : SS X) (hY : SS Y) (hk : k < X.length) (h : (j' = j ∧ ∀ hj : j < Y.length, 0 < cmpR Y[j] X[k]) ∨ (j' = j + 1 ∧ ∃ hj : j < Y.length, Y[j] = X[k])) : Merge X Y (k + 1) j' (L ++ [X[k]]) := by
  have hltY : ∀ s ∈ Y.drop j', cmpR X[k] s < 0 := fun s hs => by
    rcases h with ⟨rfl, h2⟩ | ⟨rfl, hj, he⟩
    · obtain ⟨i, hi, rfl⟩ := List.getElem_of_mem hs
      simp only [List.length_drop] at hi
      rw [List.getElem_drop]
      have h3 := (tot_cmpR.gt _ _).1 (h2 (by omega))
      rcases Nat.eq_zero_or_pos i with h0 | h0
      · subst h0; exact h3
      · exact tot_cmpR.tr _ _ _ h3 (hY.get (by omega) (by omega))
    · obtain ⟨i, hi, rfl⟩ := List.getElem_of_mem hs
      simp only [List.length_drop] at hi
      rw [List.getElem_drop, ← he]
      exact hY.get (by omega) (by omega)
  have hsub : ∀ s ∈ Y.drop j', s ∈ Y.drop j := fun s hs => by
    rcases h with ⟨rfl, _⟩ | ⟨rfl, _⟩
    · exact hs
    · exact mem_drop_succ hs
  refine ⟨ss_snoc m.ss (fun r hr => m.ltX r hr _ (mem_drop_self hk)), fun r => ?_, fun r hr s hs => ?_, fun r hr s hs => ?_, hk, ?_, ?_⟩
  · rw [List.mem_append, m.mem, List.mem_singleton, mem_take_succ hk]
    rcases h with ⟨rfl, _⟩ | ⟨rfl, hj, he⟩
    · constructor
      · rintro ((h | h) | h)
        · exact .inl (.inl h)
        · exact .inr h
        · exact .inl (.inr h)
      · rintro ((h | h) | h)
        · exact .inl (.inl h)
        · exact .inr h
        · exact .inl (.inr h)
    · rw [mem_take_succ hj, he]
      constructor
      · rintro ((h | h) | h)
        · exact .inl (.inl h)
        · exact .inr (.inl h)
        · exact .inl (.inr h)
      · rintro ((h | h) | (h | h))
        · exact .inl (.inl h)
        · exact .inr h
        · exact .inl (.inr h)
        · exact .inr h
  · rw [List.mem_append, List.mem_singleton] at hr
    rcases hr with hr | rfl
    · exact m.ltX r hr s (mem_drop_succ hs)
    · obtain ⟨i, hi, rfl⟩ := List.getElem_of_mem hs
      simp only [List.length_drop] at hi
      rw [List.getElem_drop]
      exact hX.get (by omega) (by omega)
  · rw [List.mem_append, List.mem_singleton] at hr
    rcases hr with hr | rfl
    · exact m.ltY r hr s (hsub s hs)
    · exact hltY s hs
  · rcases h with ⟨rfl, _⟩ | ⟨rfl, hj, _⟩
    · exact m.jle
    · exact hj
  · have := m.len
    rcases h with ⟨rfl, _⟩ | ⟨rfl, _⟩ <;> simp <;> omega
/-- All of X is taken: what is left of Y ends the merge. -/
theorem Merge.done {X Y L : List R} {j : Nat} (m : Merge X Y X.length j L) (hY : SS Y) : SS (L ++ Y.drop j) ∧ ∀ r, r ∈ L ++ Y.drop j ↔ r ∈ X ∨ r ∈ Y := by
  refine ⟨?_, fun r => ?_⟩
  · unfold SS
    rw [List.pairwise_append]
    exact ⟨m.ss, hY.drop j, fun a ha b hb => m.ltY a ha b hb⟩
  · rw [List.mem_append, m.mem, List.take_length, mem_take_drop (Y := Y) j r, or_assoc]

end Go.Proofs.Ytlcammcifjihpaa.RL
end

section
/- Plain: the nodes of a trie over ascending rows, level by level, and where the children of a node lie. -/
namespace Go.Proofs.Ytlcammcifjihpaa.RL

theorem cmpR_nil_le (y : R) : cmpR [] y ≤ 0 := by cases y <;> simp [cmpR, cmpL]
theorem cmpR_cons (a b : V) (x y : R) : cmpR (a :: x) (b :: y) = if cmpV a b = 0 then cmpR x y else cmpV a b := rfl
theorem take_mono : ∀ (n : Nat) (x y : R), cmpR x y ≤ 0 → cmpR (x.take n) (y.take n) ≤ 0
  | 0, x, y, _ => by simp [tot_cmpR.self]
  | n + 1, [], y, _ => by rw [List.take_nil]; exact cmpR_nil_le _
  | n + 1, a :: x, [], h => by simp [cmpR, cmpL] at h
  | n + 1, a :: x, b :: y, h => by
    rw [List.take_succ_cons, List.take_succ_cons, cmpR_cons]
    rw [cmpR_cons] at h
    split at h
    · rename_i e; rw [if_pos e]; exact take_mono n x y h
    · rename_i e; rw [if_neg e]; exact h
theorem take_le_self : ∀ (x : R) (m n : Nat), m ≤ n → cmpR (x.take m) (x.take n) ≤ 0
  | [], m, n, _ => by simp [tot_cmpR.self]
  | a :: x, 0, n, _ => by rw [List.take_zero]; exact cmpR_nil_le _
  | a :: x, m + 1, 0, h => by omega
  | a :: x, m + 1, n + 1, h => by
    rw [List.take_succ_cons, List.take_succ_cons, cmpR_cons, if_pos (tot_cmpV.self a)]
    exact take_le_self x m n (by omega)
/-- A strict comparison of two rows of one length is not turned by what stands behind them. -/
theorem lt_ext : ∀ (a b s t : R), a.length = b.length → cmpR a b < 0 → cmpR (a ++ s) (b ++ t) < 0
  | [], [], _, _, _, h => by simp [cmpR, cmpL] at h
  | [], _ :: _, _, _, hl, _ => by simp at hl
  | _ :: _, [], _, _, hl, _ => by simp at hl
  | a :: x, b :: y, s, t, hl, h => by
    rw [List.cons_append, List.cons_append, cmpR_cons]
    rw [cmpR_cons] at h
    split at h
    · rename_i e; rw [if_pos e]; exact lt_ext x y s t (by simpa using hl) h
    · rename_i e; rw [if_neg e]; exact h

/-- How many values two rows have in common at their beginning. -/
def sharedN : R → R → Nat
  | a :: x, b :: y => if a = b then sharedN x y + 1 else 0
  | [], _ => 0
  | _ :: _, [] => 0
theorem sharedN_take : ∀ (x y : R) (l : Nat), l ≤ sharedN x y → x.take l = y.take l
  | [], y, l, h => by simp [sharedN] at h; subst h; simp
  | a :: x, [], l, h => by simp [sharedN] at h; subst h; simp
  | a :: x, b :: y, 0, _ => by simp
  | a :: x, b :: y, l + 1, h => by
    unfold sharedN at h
    split at h
    · rename_i e
      rw [List.take_succ_cons, List.take_succ_cons, e, sharedN_take x y l (by omega)]
    · omega
theorem sharedN_ne : ∀ (x y : R) (l : Nat), sharedN x y < l → l ≤ x.length → l ≤ y.length → x.take l ≠ y.take l
  | [], y, l, h, h1, _ => by simp at h1; omega
  | a :: x, [], l, h, _, h2 => by simp at h2; omega
  | a :: x, b :: y, 0, h, _, _ => by omega
  | a :: x, b :: y, l + 1, h, h1, h2 => by
    unfold sharedN at h
    rw [List.take_succ_cons, List.take_succ_cons]
    intro e
    injection e with e1 e2
    rw [if_pos e1] at h
    exact sharedN_ne x y l (by omega) (by simpa using h1) (by simpa using h2) e2
theorem sharedN_le : ∀ (x y : R), sharedN x y ≤ x.length
  | [], y => by simp [sharedN]
  | a :: x, [] => by simp [sharedN]
  | a :: x, b :: y => by
    unfold sharedN
    have := sharedN_le x y
    split <;> simp <;> omega

/-- The nodes of a level: the distinct beginnings of the rows. -/
def nodes (d : Nat) (P : List R) (l : Nat) : List R := if l < d then ofF (P.map (List.take (l + 1))) else []
theorem nodes_ss (d : Nat) (P : List R) (l : Nat) : SS (nodes d P l) := by
  unfold nodes
  split
  · exact SS.of _
  · exact ss_nil
theorem mem_nodes {d : Nat} {P : List R} {l : Nat} (hl : l < d) (q : R) : q ∈ nodes d P l ↔ ∃ y ∈ P, y.take (l + 1) = q := by
  unfold nodes
  rw [if_pos hl, mem_ofF, List.mem_map]
theorem nodes_out {d : Nat} {P : List R} {l : Nat} (hl : d ≤ l) : nodes d P l = [] := by unfold nodes; rw [if_neg (by omega)]
theorem nodes_len (d : Nat) (P : List R) (l : Nat) : (nodes d P l).length ≤ P.length := by
  unfold nodes
  split
  · have := ofF_length_le (P.map (List.take (l + 1))); simpa using this
  · simp
theorem nodes_nil (d l : Nat) : nodes d [] l = [] := by unfold nodes; split <;> rfl
theorem mem_nodes_len {d : Nat} {P : List R} (hd : ∀ r ∈ P, r.length = d) {l : Nat} {q : R} (h : q ∈ nodes d P l) : q.length = l + 1 := by
  by_cases hl : l < d
  · obtain ⟨y, hy, rfl⟩ := (mem_nodes hl q).1 h
    have := hd y hy
    simp; omega
  · rw [nodes_out (by omega)] at h; cases h

theorem insF_end {L : List R} {a : R} (h : ∀ y ∈ L, cmpR y a < 0) : insF L a = L ++ [a] := by
  unfold insF
  have hn : ¬ a ∈ L := fun hm => by have := h a hm; rw [tot_cmpR.self] at this; omega
  rw [if_neg hn]
  have hr : rank L a = L.length := List.countP_eq_length.2 fun y hy => by simpa using h y hy
  rw [hr, List.take_length, List.drop_length]
theorem ofF_append (X : List R) (r : R) : ofF (X ++ [r]) = insF (ofF X) r := by unfold ofF; rw [List.foldl_append]; rfl
theorem nodes_same {d : Nat} {P : List R} {x : R} {l : Nat} (h : ∃ y ∈ P, y.take (l + 1) = x.take (l + 1)) : nodes d (P ++ [x]) l = nodes d P l := by
  unfold nodes
  split
  · rw [List.map_append, List.map_singleton, ofF_append]
    unfold insF
    rw [if_pos]
    rw [mem_ofF, List.mem_map]
    exact h
  · rfl
theorem nodes_new {d : Nat} {P : List R} {x : R} {l : Nat} (hl : l < d) (h : ∀ y ∈ P, cmpR (y.take (l + 1)) (x.take (l + 1)) < 0) : nodes d (P ++ [x]) l = nodes d P l ++ [x.take (l + 1)] := by
  unfold nodes
  rw [if_pos hl, if_pos hl, List.map_append, List.map_singleton, ofF_append]
  apply insF_end
  intro q hq
  rw [mem_ofF, List.mem_map] at hq
  obtain ⟨y, hy, rfl⟩ := hq
  exact h y hy

theorem rank_append_ge {L : List R} {q p : R} (h : 0 ≤ cmpR q p) : rank (L ++ [q]) p = rank L p := by
  unfold rank
  rw [List.countP_append, List.countP_singleton, if_neg (by simpa using h)]
  rfl
section
variable {d : Nat} {P : List R} {x : R} (hS : SS (P ++ [x])) (hd : ∀ r ∈ P ++ [x], r.length = d)
include hS hd
theorem shared_lt {l : Nat} (hl : l < d) (h : sharedN (P.getLastD []) x ≤ l) : ∀ y ∈ P, cmpR (y.take (l + 1)) (x.take (l + 1)) < 0 := by
  intro y hy
  rcases List.eq_nil_or_concat P with rfl | ⟨Q, z, rfl⟩
  · cases hy
  · simp only [List.concat_eq_append] at *
    rw [List.getLastD_concat] at h
    have hz : z.length = d := hd z (by simp)
    have hx : x.length = d := hd x (by simp)
    have hzx : cmpR z x < 0 := by
      unfold SS at hS
      rw [List.pairwise_append] at hS
      exact hS.2.2 z (by simp) x (by simp)
    have h1 : cmpR (z.take (l + 1)) (x.take (l + 1)) < 0 := by
      have h2 := take_mono (l + 1) z x (by omega)
      have h3 := sharedN_ne z x (l + 1) (by omega) (by omega) (by omega)
      rcases Int.lt_or_eq_of_le h2 with h4 | h4
      · exact h4
      · exact absurd ((tot_cmpR.z _ _).1 h4) h3
    have h5 : cmpR y z ≤ 0 := by
      rw [List.mem_append, List.mem_singleton] at hy
      rcases hy with hy | rfl
      · unfold SS at hS
        rw [List.pairwise_append, List.pairwise_append] at hS
        exact Int.le_of_lt (hS.1.2.2 y hy z (by simp))
      · rw [tot_cmpR.self]; omega
    exact tot_cmpR.lt_of_le_of_lt (take_mono (l + 1) y z h5) h1
theorem nodes_snoc {l : Nat} (hl : l < d) : nodes d (P ++ [x]) l = if l < sharedN (P.getLastD []) x then nodes d P l else nodes d P l ++ [x.take (l + 1)] := by
  split
  · rename_i h
    apply nodes_same
    rcases List.eq_nil_or_concat P with rfl | ⟨Q, z, rfl⟩
    · simp [sharedN] at h
    · simp only [List.concat_eq_append] at *
      rw [List.getLastD_concat] at h
      exact ⟨z, by simp, sharedN_take z x (l + 1) (by omega)⟩
  · rename_i h
    exact nodes_new hl (shared_lt hS hd hl (by omega))
omit hS hd in
theorem node_le {l : Nat} {p : R} (hP : ∀ y ∈ P, cmpR y x < 0) (hl : l < d) (hp : p ∈ nodes d P l) : cmpR p (x.take (l + 1)) ≤ 0 := by
  obtain ⟨y, hy, rfl⟩ := (mem_nodes hl p).1 hp
  exact take_mono (l + 1) y x (by have := hP y hy; omega)
end

/-- Where the children of each node of a level begin in the next level. -/
def firsts (d : Nat) (P : List R) (l : Nat) : List Nat := (nodes d P l).map (rank (nodes d P (l + 1)))

section
variable {d : Nat} {P : List R} {x : R} (hS : SS (P ++ [x])) (hd : ∀ r ∈ P ++ [x], r.length = d)
include hS hd
theorem rank_step {l : Nat} {p : R} (hl : l < d) (hp : cmpR p (x.take (l + 1)) ≤ 0) : rank (nodes d (P ++ [x]) (l + 1)) p = rank (nodes d P (l + 1)) p := by
  by_cases hl1 : l + 1 < d
  · rw [nodes_snoc hS hd hl1]
    split
    · rfl
    · apply rank_append_ge
      have h1 := tot_cmpR.le_trans hp (take_le_self x (l + 1) (l + 1 + 1) (by omega))
      rw [tot_cmpR.sw p]
      omega
  · rw [nodes_out (by omega), nodes_out (by omega)]
theorem firsts_snoc {l : Nat} (hl : l < d) : firsts d (P ++ [x]) l = if l < sharedN (P.getLastD []) x then firsts d P l else firsts d P l ++ [(nodes d P (l + 1)).length] := by
  have hPx : ∀ y ∈ P, cmpR y x < 0 := fun y hy => by
    unfold SS at hS
    rw [List.pairwise_append] at hS
    exact hS.2.2 y hy x (by simp)
  have hold : (nodes d P l).map (rank (nodes d (P ++ [x]) (l + 1))) = (nodes d P l).map (rank (nodes d P (l + 1))) := by
    apply List.map_congr_left
    intro p hp
    exact rank_step hS hd hl (node_le hPx hl hp)
  unfold firsts
  rw [nodes_snoc hS hd hl]
  by_cases h : l < sharedN (P.getLastD []) x
  · rw [if_pos h, if_pos h]
    exact hold
  · rw [if_neg h, if_neg h, List.map_append, hold, List.map_singleton]
    congr 2
    rw [rank_step hS hd hl (by rw [tot_cmpR.self]; omega)]
    apply List.countP_eq_length.2
    intro q hq
    by_cases hl1 : l + 1 < d
    · obtain ⟨y, hy, rfl⟩ := (mem_nodes hl1 q).1 hq
      have h1 := shared_lt hS hd hl (by omega) y hy
      have hyl : y.length = d := hd y (by simp [hy])
      have hxl : x.length = d := hd x (by simp)
      have h2 := lt_ext (y.take (l + 1)) (x.take (l + 1)) ((y.take (l + 2)).drop (l + 1)) [] (by simp; omega) h1
      have e : y.take (l + 1) ++ (y.take (l + 2)).drop (l + 1) = y.take (l + 2) := by
        conv => rhs; rw [← List.take_append_drop (l + 1) (y.take (l + 2))]
        rw [List.take_take, Nat.min_eq_left (by omega)]
      rw [e, List.append_nil] at h2
      simpa using h2
    · rw [nodes_out (by omega)] at hq; cases hq
end
theorem firsts_nil (d l : Nat) : firsts d [] l = [] := by unfold firsts; rw [nodes_nil d l]; rfl

section
variable {d : Nat} {P : List R} (hd : ∀ r ∈ P, r.length = d)
include hd
omit hd in
/-- A node's beginning is a node one level up. -/
theorem parent_mem {l : Nat} (hl : l + 1 < d) {q : R} (hq : q ∈ nodes d P (l + 1)) : q.take (l + 1) ∈ nodes d P l := by
  obtain ⟨y, hy, rfl⟩ := (mem_nodes hl q).1 hq
  refine (mem_nodes (by omega) _).2 ⟨y, hy, ?_⟩
  rw [List.take_take, Nat.min_eq_left (by omega)]
omit hd in
/-- Every node has a child. -/
theorem child_mem {l : Nat} (hl : l + 1 < d) {p : R} (hp : p ∈ nodes d P l) : ∃ q ∈ nodes d P (l + 1), q.take (l + 1) = p := by
  obtain ⟨y, hy, rfl⟩ := (mem_nodes (by omega) p).1 hp
  refine ⟨y.take (l + 2), (mem_nodes hl _).2 ⟨y, hy, rfl⟩, ?_⟩
  rw [List.take_take, Nat.min_eq_left (by omega)]
/-- A node one level down against a node: its beginning tells. -/
theorem child_cmp {l : Nat} {q p : R} (hq : q ∈ nodes d P (l + 1)) (hp : p.length = l + 1) : (cmpR q p < 0 ↔ cmpR (q.take (l + 1)) p < 0) ∧ (beginsB q p = true ↔ q.take (l + 1) = p) := by
  have hql := mem_nodes_len hd hq
  have e : q.take (l + 1) ++ q.drop (l + 1) = q := List.take_append_drop _ _
  refine ⟨⟨fun h => ?_, fun h => ?_⟩, ?_⟩
  · rcases Int.lt_or_le (cmpR (q.take (l + 1)) p) 0 with h1 | h1
    · exact h1
    · exfalso
      have h2 : cmpR p (q.take (l + 1)) ≤ 0 := by rw [tot_cmpR.sw]; omega
      have h3 := tot_cmpR.le_trans h2 (by have := take_le_self q (l + 1) q.length (by omega); rw [List.take_length] at this; exact this)
      rw [tot_cmpR.sw] at h3
      omega
  · have h2 := lt_ext (q.take (l + 1)) p (q.drop (l + 1)) [] (by simp; omega) h
    rw [e, List.append_nil] at h2
    exact h2
  · unfold beginsB
    rw [hp]
    simp only [Bool.and_eq_true, decide_eq_true_eq]
    exact ⟨fun h => h.2, fun h => ⟨by omega, h⟩⟩
/-- The children of a node end where those of the next node begin. -/
theorem firsts_next {l : Nat} (hl : l + 1 < d) {i : Nat} (hi : i + 1 < (nodes d P l).length) :
    rank (nodes d P (l + 1)) (nodes d P l)[i + 1] = rank (nodes d P (l + 1)) ((nodes d P l)[i]'(by omega)) + manyB (nodes d P (l + 1)) ((nodes d P l)[i]'(by omega)) := by
  have hN := nodes_ss d P (l + 1)
  have hM := nodes_ss d P l
  have hi0 : i < (nodes d P l).length := by omega
  have hpl : ((nodes d P l)[i]).length = l + 1 := mem_nodes_len hd (List.getElem_mem hi0)
  have hpl2 : ((nodes d P l)[i + 1]).length = l + 1 := mem_nodes_len hd (List.getElem_mem hi)
  have hlt := hM.get (show i < i + 1 by omega) hi
  obtain ⟨a1, a2⟩ := rank_split hN ((nodes d P l)[i])
  obtain ⟨b1, b2⟩ := rank_split hN ((nodes d P l)[i + 1])
  have hle : rank (nodes d P (l + 1)) ((nodes d P l)[i]) ≤ rank (nodes d P (l + 1)) ((nodes d P l)[i + 1]) := by
    unfold rank
    apply List.countP_mono_left
    intro q _ hq
    simp only [decide_eq_true_eq] at hq ⊢
    exact tot_cmpR.tr _ _ _ hq hlt
  have hbl := rank_le (nodes d P (l + 1)) ((nodes d P l)[i + 1])
  have key := manyB_eq hN ((nodes d P l)[i]) (j := rank (nodes d P (l + 1)) ((nodes d P l)[i + 1]) - rank (nodes d P (l + 1)) ((nodes d P l)[i])) (by omega) ?_ ?_
  · omega
  · intro k hk hkj
    have hq := List.getElem_mem hk
    obtain ⟨c1, c2⟩ := child_cmp hd hq hpl
    obtain ⟨c3, _⟩ := child_cmp hd hq hpl2
    have hge := a2 _ hk (by omega)
    have hlt2 := c3.1 (b1 _ hk (by omega))
    refine c2.2 ?_
    -- its beginning is a node between the two
    obtain ⟨j, hj, e⟩ := List.getElem_of_mem (parent_mem hl hq)
    rw [← e] at hlt2 c1 ⊢
    have hji : j ≤ i := by
      refine Classical.byContradiction fun hn => ?_
      rcases Nat.lt_or_ge (i + 1) j with h1 | h1
      · have := hM.get h1 hj
        rw [tot_cmpR.sw] at this
        omega
      · obtain rfl : j = i + 1 := by omega
        rw [tot_cmpR.self] at hlt2
        omega
    rcases Nat.lt_or_ge j i with h1 | h1
    · have := c1.2 (hM.get h1 hi0)
      omega
    · obtain rfl : j = i := by omega
      rfl
  · intro hk
    have hq := List.getElem_mem hk
    obtain ⟨_, c2⟩ := child_cmp hd hq hpl
    obtain ⟨c3, _⟩ := child_cmp hd hq hpl2
    have hge := b2 _ hk (by omega)
    cases hb : beginsB (nodes d P (l + 1))[rank (nodes d P (l + 1)) ((nodes d P l)[i]) + (rank (nodes d P (l + 1)) ((nodes d P l)[i + 1]) - rank (nodes d P (l + 1)) ((nodes d P l)[i]))] ((nodes d P l)[i])
    · rfl
    · exfalso
      have := c3.2 (by rw [c2.1 hb]; exact hlt)
      omega
theorem firsts_last {l : Nat} (hl : l + 1 < d) {i : Nat} (hi : i + 1 = (nodes d P l).length) :
    (nodes d P (l + 1)).length = rank (nodes d P (l + 1)) ((nodes d P l)[i]'(by omega)) + manyB (nodes d P (l + 1)) ((nodes d P l)[i]'(by omega)) := by
  have hN := nodes_ss d P (l + 1)
  have hM := nodes_ss d P l
  have hi0 : i < (nodes d P l).length := by omega
  have hpl : ((nodes d P l)[i]).length = l + 1 := mem_nodes_len hd (List.getElem_mem hi0)
  obtain ⟨a1, a2⟩ := rank_split hN ((nodes d P l)[i])
  have hbl := rank_le (nodes d P (l + 1)) ((nodes d P l)[i])
  have key := manyB_eq hN ((nodes d P l)[i]) (j := (nodes d P (l + 1)).length - rank (nodes d P (l + 1)) ((nodes d P l)[i])) (by omega) ?_ (fun hk => by omega)
  · omega
  · intro k hk hkj
    have hq := List.getElem_mem hk
    obtain ⟨c1, c2⟩ := child_cmp hd hq hpl
    have hge := a2 _ hk (by omega)
    refine c2.2 ?_
    obtain ⟨j, hj, e⟩ := List.getElem_of_mem (parent_mem hl hq)
    rw [← e] at c1 ⊢
    rcases Nat.lt_or_ge j i with h1 | h1
    · have := c1.2 (hM.get h1 hi0)
      omega
    · obtain rfl : j = i := by omega
      rfl
end

end Go.Proofs.Ytlcammcifjihpaa.RL
end

section
/- Words for tries and iterators in memory; walks: onValue, Level, Steps, Depth, size, Iter. -/
namespace Go.Proofs.Ytlcammcifjihpaa
open Go.RowKit Go.Sort

/-- The levels of a trie in memory: the values of each level, and where the children of each node begin. -/
def TrM (B : Nat) (w : World) (LA : Option Addr) (d : Nat) (vs : Nat → RL.R) (fs : Nat → List Nat) : Prop :=
  ∀ l, l < d → ∃ b o VA VC FA FC, LA = some ⟨b, o, none⟩ ∧ b < B ∧ w.cell? ⟨b, o + l * 2, none⟩ = some (.slice VA (vs l).length VC) ∧ w.cell? ⟨b, o + l * 2 + 1, none⟩ = some (.slice FA (fs l).length FC) ∧ (vs l).length ≤ VC ∧ VC ≤ 9223372036854775807 ∧ SlR B w VA (vs l) ∧ SlN .i64 B w FA (fs l)
theorem TrM.keep {B : Nat} {w w' : World} {LA : Option Addr} {d : Nat} {vs : Nat → RL.R} {fs : Nat → List Nat} (h : TrM B w LA d vs fs) (hk : ∀ p : Addr, p.block < B → w'.cell? p = w.cell? p) : TrM B w' LA d vs fs := fun l hl => by
  obtain ⟨b, o, VA, VC, FA, FC, h1, h2, h3, h4, h5, h6, h7, h8⟩ := h l hl
  exact ⟨b, o, VA, VC, FA, FC, h1, h2, (hk ⟨b, o + l * 2, none⟩ h2).trans h3, (hk ⟨b, o + l * 2 + 1, none⟩ h2).trans h4, h5, h6, Sl.keep h7 hk, Sl.keep h8 hk⟩
theorem TrM.grown {B g : Nat} {w w' : World} {LA : Option Addr} {d : Nat} {vs : Nat → RL.R} {fs : Nat → List Nat} (h : TrM B w LA d vs fs) (hg : w.grownBy w' (some g)) (hB : B ≤ g) (hz : B ≤ w.heap.size) : TrM B w' LA d vs fs :=
  h.keep fun _p hp => (below_of_grown hg hB hz).cell hp
theorem TrM.below {B C : Nat} {w w' : World} {LA : Option Addr} {d : Nat} {vs : Nat → RL.R} {fs : Nat → List Nat} (h : TrM B w LA d vs fs) (hb : Below C w w') (hB : B ≤ C) : TrM B w' LA d vs fs :=
  h.keep fun p hp => hb.cell (by omega)
theorem TrM.more {B B' : Nat} {w : World} {LA : Option Addr} {d : Nat} {vs : Nat → RL.R} {fs : Nat → List Nat} (h : TrM B w LA d vs fs) (hB : B ≤ B') : TrM B' w LA d vs fs := fun l hl => by
  obtain ⟨b, o, VA, VC, FA, FC, h1, h2, h3, h4, h5, h6, h7, h8⟩ := h l hl
  exact ⟨b, o, VA, VC, FA, FC, h1, by omega, h3, h4, h5, h6, Sl.more h7 hB, Sl.more h8 hB⟩

/-- An iterator: its level, its place among its siblings and their end, its steps, the places above. -/
structure It where
  L : Nat
  pos : Nat
  fin : Nat
  steps : Nat
  ab : Nat → Nat × Nat
/-- The cells of an iterator. -/
def ItC (xs : List Value) (LA : Option Addr) (d C : Nat) (t : It) : Prop :=
  xs.length = 69 ∧ xs[0]? = some (.slice LA d C) ∧ xs[1]? = some (.int .i64 t.L) ∧ xs[2]? = some (.int .i64 t.pos) ∧ xs[3]? = some (.int .i64 t.fin) ∧ (∀ j, j < 32 → xs[4 + j * 2]? = some (.int .i64 (t.ab j).1) ∧ xs[4 + j * 2 + 1]? = some (.int .i64 (t.ab j).2)) ∧ xs[68]? = some (.int .i64 t.steps)
/-- An iterator in memory. -/
def ItM (w : World) (g : Nat) (LA : Option Addr) (d C : Nat) (t : It) : Prop := ∃ xs, Row w g 71 xs ∧ ItC xs LA d C t

section
variable {w w' : World} {g : Nat} {LA : Option Addr} {d C : Nat} {t : It} {xs : List Value}
theorem ItM.lt (h : ItM w g LA d C t) : g < w.heap.size := by obtain ⟨xs, h1, _⟩ := h; exact h1.lt
theorem ItM.c0 (h : ItM w g LA d C t) : w.cell? ⟨g, 0, none⟩ = some (.slice LA d C) := by obtain ⟨xs, h1, h2⟩ := h; rw [h1.cell]; exact h2.2.1
theorem ItM.c1 (h : ItM w g LA d C t) : w.cell? ⟨g, 1, none⟩ = some (.int .i64 t.L) := by obtain ⟨xs, h1, h2⟩ := h; rw [h1.cell]; exact h2.2.2.1
theorem ItM.c2 (h : ItM w g LA d C t) : w.cell? ⟨g, 2, none⟩ = some (.int .i64 t.pos) := by obtain ⟨xs, h1, h2⟩ := h; rw [h1.cell]; exact h2.2.2.2.1
theorem ItM.c3 (h : ItM w g LA d C t) : w.cell? ⟨g, 3, none⟩ = some (.int .i64 t.fin) := by obtain ⟨xs, h1, h2⟩ := h; rw [h1.cell]; exact h2.2.2.2.2.1
theorem ItM.ca (h : ItM w g LA d C t) {j : Nat} (hj : j < 32) : w.cell? ⟨g, 4 + j * 2, none⟩ = some (.int .i64 (t.ab j).1) ∧ w.cell? ⟨g, 4 + j * 2 + 1, none⟩ = some (.int .i64 (t.ab j).2) := by
  obtain ⟨xs, h1, h2⟩ := h
  rw [h1.cell, h1.cell]
  exact h2.2.2.2.2.2.1 j hj
theorem ItM.c68 (h : ItM w g LA d C t) : w.cell? ⟨g, 68, none⟩ = some (.int .i64 t.steps) := by obtain ⟨xs, h1, h2⟩ := h; rw [h1.cell]; exact h2.2.2.2.2.2.2
theorem ItM.fr (h : ItM w g LA d C t) (o : Nat) : w.frozen? ⟨g, o, none⟩ = false := by obtain ⟨xs, h1, _⟩ := h; exact h1.frozen o
theorem ItM.up (h : ItM w g LA d C t) (hb : Below w.heap.size w w') : ItM w' g LA d C t := by obtain ⟨xs, h1, h2⟩ := h; exact ⟨xs, h1.up hb, h2⟩
theorem ItM.ext (h : ItM w g LA d C t) (hb : Ext w w') : ItM w' g LA d C t := h.up hb.below
theorem ItM.grown {row : Option Nat} (h : ItM w g LA d C t) (hb : w.grownBy w' row) (hne : some g ≠ row) : ItM w' g LA d C t := by obtain ⟨xs, h1, h2⟩ := h; exact ⟨xs, h1.grown hb hne, h2⟩
theorem ItM.setL (h : ItM w g LA d C t) (n : Nat) : ItM (w.setCell ⟨g, 1, none⟩ (.int .i64 n)) g LA d C { t with L := n } := by
  obtain ⟨xs, h1, hl, h2, h3, h4, h5, h6, h7⟩ := h
  refine ⟨_, h1.set 1 _, by simpa using hl, ?_, ?_, ?_, ?_, fun j hj => ?_, ?_⟩
  · rw [List.getElem?_set_ne (by omega)]; exact h2
  · rw [List.getElem?_set_self (by omega)]
  · rw [List.getElem?_set_ne (by omega)]; exact h4
  · rw [List.getElem?_set_ne (by omega)]; exact h5
  · rw [List.getElem?_set_ne (by omega), List.getElem?_set_ne (by omega)]; exact h6 j hj
  · rw [List.getElem?_set_ne (by omega)]; exact h7
theorem ItM.setPos (h : ItM w g LA d C t) (n : Nat) : ItM (w.setCell ⟨g, 2, none⟩ (.int .i64 n)) g LA d C { t with pos := n } := by
  obtain ⟨xs, h1, hl, h2, h3, h4, h5, h6, h7⟩ := h
  refine ⟨_, h1.set 2 _, by simpa using hl, ?_, ?_, ?_, ?_, fun j hj => ?_, ?_⟩
  · rw [List.getElem?_set_ne (by omega)]; exact h2
  · rw [List.getElem?_set_ne (by omega)]; exact h3
  · rw [List.getElem?_set_self (by omega)]
  · rw [List.getElem?_set_ne (by omega)]; exact h5
  · rw [List.getElem?_set_ne (by omega), List.getElem?_set_ne (by omega)]; exact h6 j hj
  · rw [List.getElem?_set_ne (by omega)]; exact h7
theorem ItM.setFin (h : ItM w g LA d C t) (n : Nat) : ItM (w.setCell ⟨g, 3, none⟩ (.int .i64 n)) g LA d C { t with fin := n } := by
  obtain ⟨xs, h1, hl, h2, h3, h4, h5, h6, h7⟩ := h
  refine ⟨_, h1.set 3 _, by simpa using hl, ?_, ?_, ?_, ?_, fun j hj => ?_, ?_⟩
  · rw [List.getElem?_set_ne (by omega)]; exact h2
  · rw [List.getElem?_set_ne (by omega)]; exact h3
  · rw [List.getElem?_set_ne (by omega)]; exact h4
  · rw [List.getElem?_set_self (by omega)]
  · rw [List.getElem?_set_ne (by omega), List.getElem?_set_ne (by omega)]; exact h6 j hj
  · rw [List.getElem?_set_ne (by omega)]; exact h7
theorem ItM.setSteps (h : ItM w g LA d C t) (n : Nat) : ItM (w.setCell ⟨g, 68, none⟩ (.int .i64 n)) g LA d C { t with steps := n } := by
  obtain ⟨xs, h1, hl, h2, h3, h4, h5, h6, h7⟩ := h
  refine ⟨_, h1.set 68 _, by simpa using hl, ?_, ?_, ?_, ?_, fun j hj => ?_, ?_⟩
  · rw [List.getElem?_set_ne (by omega)]; exact h2
  · rw [List.getElem?_set_ne (by omega)]; exact h3
  · rw [List.getElem?_set_ne (by omega)]; exact h4
  · rw [List.getElem?_set_ne (by omega)]; exact h5
  · rw [List.getElem?_set_ne (by omega), List.getElem?_set_ne (by omega)]; exact h6 j hj
  · rw [List.getElem?_set_self (by omega)]
/-- The place above at a level is laid down. -/
theorem ItM.setAb (h : ItM w g LA d C t) {k : Nat} (hk : k < 32) (p f : Nat) : ItM ((w.setCell ⟨g, 4 + k * 2, none⟩ (.int .i64 p)).setCell ⟨g, 4 + k * 2 + 1, none⟩ (.int .i64 f)) g LA d C { t with ab := fun j => if j = k then (p, f) else t.ab j } := by
  obtain ⟨xs, h1, hl, h2, h3, h4, h5, h6, h7⟩ := h
  refine ⟨_, (h1.set _ _).set _ _, by simpa using hl, ?_, ?_, ?_, ?_, fun j hj => ?_, ?_⟩
  · rw [List.getElem?_set_ne (by omega), List.getElem?_set_ne (by omega)]; exact h2
  · rw [List.getElem?_set_ne (by omega), List.getElem?_set_ne (by omega)]; exact h3
  · rw [List.getElem?_set_ne (by omega), List.getElem?_set_ne (by omega)]; exact h4
  · rw [List.getElem?_set_ne (by omega), List.getElem?_set_ne (by omega)]; exact h5
  · by_cases e : j = k
    · subst e
      simp only [if_true]
      refine ⟨?_, ?_⟩
      · rw [List.getElem?_set_ne (by omega), List.getElem?_set_self (by omega)]
      · rw [List.getElem?_set_self (by simp; omega)]
    · simp only [if_neg e]
      rw [List.getElem?_set_ne (by omega), List.getElem?_set_ne (by omega), List.getElem?_set_ne (by omega), List.getElem?_set_ne (by omega)]
      exact h6 j hj
  · rw [List.getElem?_set_ne (by omega), List.getElem?_set_ne (by omega)]; exact h7
end

theorem tiOnValue_nil (w : World) : Calls Try.prog 31 #[.pointer none] w fun e w' => e = .returned (.bool false) ∧ Ext w w' := by
  go_enter Try.func31, Try.ntmps31
  go_wp2
  go_quiet (fail)
  go_wp2
  go_ret
  exact ⟨rfl, (Ext.refl w).drewN _⟩

set_option maxHeartbeats 400000 in
set_option maxRecDepth 100000 in
theorem tiOnValue_any (g : Nat) (LA : Option Addr) (d C : Nat) (t : It) (w : World) (h : ItM w g LA d C t) :
    Calls Try.prog 31 #[.pointer (some ⟨g, 0, none⟩)] w fun e w' => e = .returned (.bool (decide (0 < t.L) && decide (t.pos < t.fin))) ∧ Ext w w' := by
  have c1 := h.c1
  have c2 := h.c2
  have c3 := h.c3
  clear h
  obtain ⟨L, pos, fin, steps, ab⟩ := t
  simp only at c1 c2 c3 ⊢
  by_cases h0 : 0 < L
  rotate_left
  · obtain rfl : L = 0 := by omega
    clear h0
    simp only [Int.natCast_zero] at c1
    go_enter Try.func31, Try.ntmps31
    go_wp2
    go_quiet (fail)
    go_wp2
    go_ret
    exact ⟨rfl, (Ext.refl w).drewN _⟩
  · have hd0 : decide ((0 : Int) < (L : Int)) = true := by simpa using h0
    by_cases h1 : pos < fin
    · have hd1 : decide ((pos : Int) < (fin : Int)) = true := by simpa using h1
      have HD : Hid ((decide (0 < L) && decide (pos < fin)) = true) := by show _ = _; simp [h0, h1]
      rw [HD.out]
      go_enter Try.func31, Try.ntmps31
      go_wp2
      go_quiet (fail)
      go_wp2
      go_ret
      exact ⟨rfl, (Ext.refl w).drewN _⟩
    · have hd1 : decide ((pos : Int) < (fin : Int)) = false := by simpa using h1
      have hd2 : decide (pos < fin) = false := by simpa using h1
      have HD : Hid ((decide (0 < L) && decide (pos < fin)) = false) := by show _ = _; simp [h1]
      rw [HD.out]
      go_enter Try.func31, Try.ntmps31
      go_wp2
      go_quiet (fail)
      go_wp2
      go_ret
      exact ⟨rfl, (Ext.refl w).drewN _⟩

end Go.Proofs.Ytlcammcifjihpaa
end

section
/- A move for regions that draw their order. -/
namespace Go.Proofs.Ytlcammcifjihpaa
open Go.RowKit Go.Sort

/-- wpAnyH_take with the slot written out. -/
theorem takeOp {P : Program} {md : Region.Mode} {ops : Array Oper} {Q : Exit → Act → World → Prop} {S : World → Prop} {i : Nat} {oi : Oper} {v : Value} {fuel : Nat} {listed : Array Bool} {a : Act} {w : World} (d : Option Tmp) (hi : ops[i]? = some oi) (hd : oi.dst = d)
    (hs : Region.noSelect ops = true) (hf : Region.free md ops listed i = true) (hr : (Region.ready md ops listed).contains i = true)
    (hQ : ∀ c a w, Q (.panic c) (a.put d v) w → Q (.panic c) a w) (hy : YieldsIf P ops S oi v a) (hS : S w)
    (h : wpAnyH P md ops Q S fuel (listed.setIfInBounds i true) (a.put d v) w) : wpAnyH P md ops Q S (fuel + 1) listed a w := by
  subst hd
  exact wpAnyH_take hi hs hf hr hQ hy hS h

end Go.Proofs.Ytlcammcifjihpaa
end

section
/- Walk: trie.shared. -/
namespace Go.Proofs.Ytlcammcifjihpaa
open Go.RowKit Go.Sort

theorem sharedN_eq : ∀ (x y : RL.R) (k : Nat), x.take k = y.take k → k ≤ x.length → k ≤ y.length → (∀ (h1 : k < x.length) (h2 : k < y.length), x[k] ≠ y[k]) → RL.sharedN x y = k
  | [], y, k, _, h1, _, _ => by simp at h1; subst h1; simp [RL.sharedN]
  | a :: x, [], k, _, _, h2, _ => by simp at h2; subst h2; simp [RL.sharedN]
  | a :: x, b :: y, 0, _, _, _, h => by
    have h0 := h (by simp) (by simp)
    simp at h0
    unfold RL.sharedN
    rw [if_neg h0]
  | a :: x, b :: y, k + 1, he, h1, h2, h => by
    rw [List.take_succ_cons, List.take_succ_cons] at he
    injection he with e1 e2
    unfold RL.sharedN
    rw [if_pos e1, sharedN_eq x y k e2 (by simpa using h1) (by simpa using h2) (fun a1 a2 => by have := h (by simpa using a1) (by simpa using a2); simpa using this)]

theorem takeV_snoc {x y : RL.R} {k : Nat} (hx : k < x.length) (hy : k < y.length) (h : x.take k = y.take k) (e : x[k] = y[k]) : x.take (k + 1) = y.take (k + 1) := by
  rw [List.take_succ_eq_append_getElem hx, List.take_succ_eq_append_getElem hy, h, e]

set_option maxHeartbeats 2000000 in
set_option maxRecDepth 100000 in
theorem trShared_any (XA YA : Option Addr) (XC YC : Nat) (x y : RL.R) (w : World) (hx : SlR w.heap.size w XA x) (hy : SlR w.heap.size w YA y) (hl : x.length ≤ y.length) (hyl : y.length ≤ 1000000) :
    Calls Try.prog 44 #[.slice XA x.length XC, .slice YA y.length YC] w fun e w' => e = .returned (.int .i64 (RL.sharedN x y)) ∧ Ext w w' := by
  have HX := Lib.hid hx
  have HY := Lib.hid hy
  clear hx hy
  go_enter Try.func44, Try.ntmps44
  go_wp2
  go_loopw [5] (fun i wr => ∃ k : Nat, k ≤ x.length ∧ i = .int .i64 k ∧ x.take k = y.take k ∧ Ext w wr) (fun i _ => x.length - (intOf i).toNat)
  case atStart => exact ⟨0, Nat.zero_le _, rfl, by simp, Ext.refl _⟩
  case round =>
    obtain ⟨k, hka, rfl, htk, hext⟩ := hrel
    have HT := Lib.hid htk
    have HE := Lib.hid hext
    have hzz := hext.size
    clear htk
    by_cases h1 : k < x.length
    rotate_left
    · have HN := Lib.hid (sharedN_eq x y k HT.out hka (by omega) (fun a _ => absurd a h1))
      have hk' : decide ((k : Int) < (x.length : Int)) = false := by simp; omega
      go_wp2
      go_quiet (fail)
      go_wp2
      go_ret
      exact ⟨by rw [HN.out]; rfl, HE.out.drewN _⟩
    · have h2 : k < y.length := by omega
      obtain ⟨b, o, rfl, hb, c1, c2, c3⟩ := slR_at HX.out h1
      obtain ⟨b', o', rfl, hb', d1, d2, d3⟩ := slR_at HY.out h2
      have HCMP := Lib.hid (fun W => vCompare_any x[k] y[k] W)
      have HZ : Hid (RL.cmpV x[k] y[k] = 0 ↔ x[k] = y[k]) := RL.tot_cmpV.z _ _
      have HNX := Lib.hid (fun e => takeV_snoc h1 h2 HT.out e)
      have HN := Lib.hid (fun (hne : x[k] ≠ y[k]) => sharedN_eq x y k HT.out hka (by omega) (fun _ _ => hne))
      generalize x[k] = u at *
      generalize y[k] = v at *
      have c1 := (hext.cell hb).trans c1
      have c2 := (hext.cell hb).trans c2
      have c3 := (hext.cell hb).trans c3
      have d1 := (hext.cell hb').trans d1
      have d2 := (hext.cell hb').trans d2
      have d3 := (hext.cell hb').trans d3
      have HK := Lib.hid (fun (W : World) (hW : Ext wr W) => (⟨(hW.cell (show b < wr.heap.size by omega)).trans c1, (hW.cell (show b < wr.heap.size by omega)).trans c2, (hW.cell (show b < wr.heap.size by omega)).trans c3, (hW.cell (show b' < wr.heap.size by omega)).trans d1, (hW.cell (show b' < wr.heap.size by omega)).trans d2, (hW.cell (show b' < wr.heap.size by omega)).trans d3⟩ : W.cell? ⟨b, o + k * 3, none⟩ = some (.int .i64 u.kind) ∧ W.cell? ⟨b, o + k * 3 + 1, none⟩ = some (.int .i64 u.int) ∧ W.cell? ⟨b, o + k * 3 + 2, none⟩ = some (.string u.str) ∧ W.cell? ⟨b', o' + k * 3, none⟩ = some (.int .i64 v.kind) ∧ W.cell? ⟨b', o' + k * 3 + 1, none⟩ = some (.int .i64 v.int) ∧ W.cell? ⟨b', o' + k * 3 + 2, none⟩ = some (.string v.str)))
      clear hext
      obtain ⟨q, hq⟩ : ∃ q, q = RL.cmpV u v := ⟨_, rfl⟩
      rw [← hq] at HCMP HZ
      clear hq
      have g1 : (0 : Int) ≤ (k : Int) := by omega
      have g2 : (k : Int) < (x.length : Int) := by omega
      have g3 : (k : Int) < (y.length : Int) := by omega
      go_wp2
      refine wp_region_held_drew (S := (fun w' => w'.cell? ⟨b, o + k * 3, none⟩ = some (.int .i64 u.kind) ∧ w'.cell? ⟨b, o + k * 3 + 1, none⟩ = some (.int .i64 u.int) ∧ w'.cell? ⟨b, o + k * 3 + 2, none⟩ = some (.string u.str) ∧ w'.cell? ⟨b', o' + k * 3, none⟩ = some (.int .i64 v.kind) ∧ w'.cell? ⟨b', o' + k * 3 + 1, none⟩ = some (.int .i64 v.int) ∧ w'.cell? ⟨b', o' + k * 3 + 2, none⟩ = some (.string v.str))) (by kernel_rfl) ⟨c1, c2, c3, d1, d2, d3⟩ (fun hHeld => ?_)
      refine takeOp (i := 0) (v := ?_) (some 6) rfl rfl (by kernel_rfl) (by kernel_rfl) (by kernel_rfl) (fun _ _ _ h => h) (Or.inl ⟨by rfl, ?_⟩) (by assumption) ?_
      rotate_left 1
      · (intro w0 hSw; (try dsimp only at hSw); go_simp; try (with_reducible rfl))
      try simp only [Act.put]
      try simp only [List.setIfInBounds_toArray]
      try simp only [List.set_cons_succ]
      try simp only [List.set_cons_zero]
      refine takeOp (i := 1) (v := ?_) (some 7) rfl rfl (by kernel_rfl) (by kernel_rfl) (by kernel_rfl) (fun _ _ _ h => h) (Or.inl ⟨by rfl, ?_⟩) (by assumption) ?_
      rotate_left 1
      · (intro w0 hSw; (try dsimp only at hSw); go_simp; try (with_reducible rfl))
      try simp only [Act.put]
      try simp only [List.setIfInBounds_toArray]
      try simp only [List.set_cons_succ]
      try simp only [List.set_cons_zero]
      refine takeOp (i := 2) (v := ?_) (some 8) rfl rfl (by kernel_rfl) (by kernel_rfl) (by kernel_rfl) (fun _ _ _ h => h) (Or.inl ⟨by rfl, ?_⟩) (by assumption) ?_
      rotate_left 1
      · (intro w0 hSw; (try dsimp only at hSw); go_simp; try (with_reducible rfl))
      try simp only [Act.put]
      try simp only [List.setIfInBounds_toArray]
      try simp only [List.set_cons_succ]
      try simp only [List.set_cons_zero]
      refine takeOp (i := 3) (v := ?_) (some 9) rfl rfl (by kernel_rfl) (by kernel_rfl) (by kernel_rfl) (fun _ _ _ h => h) (Or.inl ⟨by rfl, ?_⟩) (by assumption) ?_
      rotate_left 1
      · (intro w0 hSw; (try dsimp only at hSw); go_simp; try (with_reducible rfl))
      try simp only [Act.put]
      try simp only [List.setIfInBounds_toArray]
      try simp only [List.set_cons_succ]
      try simp only [List.set_cons_zero]
      refine takeOp (i := 4) (v := ?_) (some 10) rfl rfl (by kernel_rfl) (by kernel_rfl) (by kernel_rfl) (fun _ _ _ h => h) (Or.inl ⟨by rfl, ?_⟩) (by assumption) ?_
      rotate_left 1
      · (intro w0 hSw; (try dsimp only at hSw); go_simp; try (with_reducible rfl))
      try simp only [Act.put]
      try simp only [List.setIfInBounds_toArray]
      try simp only [List.set_cons_succ]
      try simp only [List.set_cons_zero]
      refine takeOp (i := 5) (v := ?_) (some 11) rfl rfl (by kernel_rfl) (by kernel_rfl) (by kernel_rfl) (fun _ _ _ h => h) (Or.inl ⟨by rfl, ?_⟩) (by assumption) ?_
      rotate_left 1
      · (intro w0 hSw; (try dsimp only at hSw); go_simp; try (with_reducible rfl))
      try simp only [Act.put]
      try simp only [List.setIfInBounds_toArray]
      try simp only [List.set_cons_succ]
      try simp only [List.set_cons_zero]
      refine takeOp (i := 6) (v := ?_) (some 12) rfl rfl (by kernel_rfl) (by kernel_rfl) (by kernel_rfl) (fun _ _ _ h => h) (Or.inl ⟨by rfl, ?_⟩) (by assumption) ?_
      rotate_left 1
      · (intro w0 hSw; (try dsimp only at hSw); go_simp; try (with_reducible rfl))
      try simp only [Act.put]
      try simp only [List.setIfInBounds_toArray]
      try simp only [List.set_cons_succ]
      try simp only [List.set_cons_zero]
      refine takeOp (i := 7) (v := ?_) (some 13) rfl rfl (by kernel_rfl) (by kernel_rfl) (by kernel_rfl) (fun _ _ _ h => h) (Or.inl ⟨by rfl, ?_⟩) (by assumption) ?_
      rotate_left 1
      · (intro w0 hSw; (try dsimp only at hSw); go_simp; try (with_reducible rfl))
      try simp only [Act.put]
      try simp only [List.setIfInBounds_toArray]
      try simp only [List.set_cons_succ]
      try simp only [List.set_cons_zero]
      refine takeOp (i := 8) (v := ?_) (some 14) rfl rfl (by kernel_rfl) (by kernel_rfl) (by kernel_rfl) (fun _ _ _ h => h) (Or.inl ⟨by rfl, ?_⟩) (by assumption) ?_
      rotate_left 1
      · (intro w0 hSw; (try dsimp only at hSw); go_simp; try (with_reducible rfl))
      try simp only [Act.put]
      try simp only [List.setIfInBounds_toArray]
      try simp only [List.set_cons_succ]
      try simp only [List.set_cons_zero]
      refine takeOp (i := 9) (v := ?_) (some 15) rfl rfl (by kernel_rfl) (by kernel_rfl) (by kernel_rfl) (fun _ _ _ h => h) (Or.inl ⟨by rfl, ?_⟩) (by assumption) ?_
      rotate_left 1
      · (intro w0 hSw; (try dsimp only at hSw); go_simp; try (with_reducible rfl))
      try simp only [Act.put]
      try simp only [List.setIfInBounds_toArray]
      try simp only [List.set_cons_succ]
      try simp only [List.set_cons_zero]
      refine takeOp (i := 10) (v := ?_) (some 16) rfl rfl (by kernel_rfl) (by kernel_rfl) (by kernel_rfl) (fun _ _ _ h => h) (Or.inl ⟨by rfl, ?_⟩) (by assumption) ?_
      rotate_left 1
      · (intro w0 hSw; (try dsimp only at hSw); go_simp; try (with_reducible rfl))
      try simp only [Act.put]
      try simp only [List.setIfInBounds_toArray]
      try simp only [List.set_cons_succ]
      try simp only [List.set_cons_zero]
      refine takeOp (i := 11) (v := ?_) (some 17) rfl rfl (by kernel_rfl) (by kernel_rfl) (by kernel_rfl) (fun _ _ _ h => h) (Or.inl ⟨by rfl, ?_⟩) (by assumption) ?_
      rotate_left 1
      · (intro w0 hSw; (try dsimp only at hSw); go_simp; try (with_reducible rfl))
      try simp only [Act.put]
      try simp only [List.setIfInBounds_toArray]
      try simp only [List.set_cons_succ]
      try simp only [List.set_cons_zero]
      refine takeOp (i := 12) (v := ?_) (some 18) rfl rfl (by kernel_rfl) (by kernel_rfl) (by kernel_rfl) (fun _ _ _ h => h) (Or.inl ⟨by rfl, ?_⟩) (by assumption) ?_
      rotate_left 1
      · (intro w0 hSw; (try dsimp only at hSw); go_simp; try (with_reducible rfl))
      try simp only [Act.put]
      try simp only [List.setIfInBounds_toArray]
      try simp only [List.set_cons_succ]
      try simp only [List.set_cons_zero]
      refine wpAnyH_ready (rs := [13]) (by kernel_rfl) (by simp) ?_
      refine AllReadyH.cons rfl (fun K hK => ?_) AllReadyH.nil
      go_simp
      refine (HCMP.out _).mono ?_
      rintro e w2 ⟨rfl, hx0⟩
      have hx : Ext wr w2 := (Ext.refl wr).drew.trans hx0
      have KEEP := HK.out w2 hx
      have HE2 := Lib.hid (HE.out.trans hx)
      clear hx hx0
      go_wp2_with fail
      refine hK.out _ _ KEEP (fun hHeld => ?_)
      clear hK K
      try simp only [Act.put]
      try simp only [List.setIfInBounds_toArray]
      try simp only [List.set_cons_succ]
      try simp only [List.set_cons_zero]
      refine takeOp (i := 14) (v := ?_) (some 20) rfl rfl (by kernel_rfl) (by kernel_rfl) (by kernel_rfl) (fun _ _ _ h => h) (Or.inl ⟨by rfl, ?_⟩) (by assumption) ?_
      rotate_left 1
      · (intro w0 hSw; (try dsimp only at hSw); go_simp; try (with_reducible rfl))
      try simp only [Act.put]
      try simp only [List.setIfInBounds_toArray]
      try simp only [List.set_cons_succ]
      try simp only [List.set_cons_zero]
      refine takeOp (i := 15) (v := ?_) (some 21) rfl rfl (by kernel_rfl) (by kernel_rfl) (by kernel_rfl) (fun _ _ _ h => h) (Or.inl ⟨by rfl, ?_⟩) (by assumption) ?_
      rotate_left 1
      · (intro w0 hSw; (try dsimp only at hSw); go_simp; try (with_reducible rfl))
      try simp only [Act.put]
      try simp only [List.setIfInBounds_toArray]
      try simp only [List.set_cons_succ]
      try simp only [List.set_cons_zero]
      refine wpAnyH_done (by kernel_rfl) ?_ _
      clear KEEP c1 c2 c3 d1 d2 d3
      by_cases hq0 : q = 0
      · have HN2 := Lib.hid (HNX.out (HZ.out.1 hq0))
        subst hq0
        clear HNX HN HZ
        go_wp2
        go_roundw
        case rel => exact ⟨k + 1, by omega, by go_num, HN2.out, HE2.out⟩
        case measure => simp [intOf]; omega
      · have HN2 := Lib.hid (HN.out (fun e => hq0 (HZ.out.2 e)))
        have hqb : (q == 0) = false := by simpa using hq0
        clear HNX HN HZ hq0
        go_wp2
        go_ret
        exact ⟨by rw [HN2.out]; rfl, HE2.out⟩

end Go.Proofs.Ytlcammcifjihpaa
end

section
/- Walks: Level, Steps, Depth, size, value, less, Key, Next, Up, Iter. -/
namespace Go.Proofs.Ytlcammcifjihpaa
open Go.RowKit Go.Sort

theorem tiLevel_nil (w : World) : Calls Try.prog 18 #[.pointer none] w fun e w' => e = .returned (.int .i64 0) ∧ w = w' := by
  go_enter Try.func18, Try.ntmps18
  go_wp2
  go_ret
  exact ⟨rfl, rfl⟩
theorem tiLevel_any (g : Nat) (LA : Option Addr) (d C : Nat) (t : It) (w : World) (h : ItM w g LA d C t) :
    Calls Try.prog 18 #[.pointer (some ⟨g, 0, none⟩)] w fun e w' => e = .returned (.int .i64 t.L) ∧ w = w' := by
  have c1 := h.c1
  clear h
  go_enter Try.func18, Try.ntmps18
  go_wp2
  go_ret
  exact ⟨rfl, rfl⟩
theorem tiSteps_nil (w : World) : Calls Try.prog 21 #[.pointer none] w fun e w' => e = .returned (.int .i64 0) ∧ w = w' := by
  go_enter Try.func21, Try.ntmps21
  go_wp2
  go_ret
  exact ⟨rfl, rfl⟩
theorem tiSteps_any (g : Nat) (LA : Option Addr) (d C : Nat) (t : It) (w : World) (h : ItM w g LA d C t) :
    Calls Try.prog 21 #[.pointer (some ⟨g, 0, none⟩)] w fun e w' => e = .returned (.int .i64 t.steps) ∧ w = w' := by
  have c1 := h.c68
  clear h
  go_enter Try.func21, Try.ntmps21
  go_wp2
  go_ret
  exact ⟨rfl, rfl⟩

theorem trDepth_any (LA : Option Addr) (d C : Nat) (w : World) : Calls Try.prog 22 #[.agg #[.slice LA d C]] w fun e w' => e = .returned (.int .i64 d) ∧ Ext w w' := by
  go_enter Try.func22, Try.ntmps22
  go_wp2
  go_ret
  exact ⟨rfl, (Ext.refl w).alloc _⟩

/-- How many nodes a level has. -/
def sizeF (d : Nat) (vs : Nat → RL.R) (l : Nat) : Nat := if l < d then (vs l).length else 0
set_option maxHeartbeats 400000 in
theorem trSize_any (B : Nat) (LA : Option Addr) (d C : Nat) (vs : Nat → RL.R) (fs : Nat → List Nat) (l : Nat) (w : World) (h : TrM B w LA d vs fs) (hB : B ≤ w.heap.size) (_hd : d ≤ 1000000) (_hl : l ≤ 1000000) :
    Calls Try.prog 32 #[.agg #[.slice LA d C], .int .i64 l] w fun e w' => e = .returned (.int .i64 (sizeF d vs l)) ∧ Ext w w' := by
  by_cases hld : l < d
  · obtain ⟨b, o, VA, VC, FA, FC, rfl, hb, h3, h4, h5, h6, h7, h8⟩ := h l hld
    have HD : Hid (sizeF d vs l = (vs l).length) := by show _ = _; unfold sizeF; rw [if_pos hld]
    have hb' : b < w.heap.size := by omega
    rw [HD.out]
    clear h h7 h8 h4
    generalize (vs l).length = n at *
    go_enter Try.func32, Try.ntmps32
    go_wp2
    go_ret
    exact ⟨rfl, (Ext.refl w).alloc _⟩
  · have HD : Hid (sizeF d vs l = 0) := by show _ = _; unfold sizeF; rw [if_neg hld]
    rw [HD.out]
    clear h
    go_enter Try.func32, Try.ntmps32
    go_wp2
    go_ret
    exact ⟨rfl, (Ext.refl w).alloc _⟩

theorem grown_set (w : World) (g o : Nat) (u : Value) : w.grownBy (w.setCell ⟨g, o, none⟩ u) (some g) := ⟨rfl, rfl, rfl, by simp, fun b _ hne => Below.heap_setCell w ⟨g, o, none⟩ u b (fun e => hne (by rw [e]))⟩
theorem Row.set3 {w : World} {g : Nat} {e : TypeId} {a0 b0 c0 : Value} (h : Row w g e [a0, b0, c0]) (a b c : Value) : Row (((w.setCell ⟨g, 0, none⟩ a).setCell ⟨g, 1, none⟩ b).setCell ⟨g, 2, none⟩ c) g e [a, b, c] := ((h.set 0 a).set 1 b).set 2 c

set_option maxHeartbeats 1000000 in
set_option maxRecDepth 100000 in
theorem tiValue_any (B g : Nat) (LA : Option Addr) (d C : Nat) (vs : Nat → RL.R) (fs : Nat → List Nat) (t : It) (p : Nat) (w : World) (h : TrM B w LA d vs fs) (hB : B ≤ w.heap.size) (hi : ItM w g LA d C t) (hd : d ≤ 1000000) (hL : 0 < t.L) (hLd : t.L ≤ d) (hp : p < (vs (t.L - 1)).length) (_hvl : (vs (t.L - 1)).length ≤ 1000000) :
    Calls Try.prog 34 #[.pointer (some ⟨g, 0, none⟩), .int .i64 p] w fun e w' => e = .returned (vv (vs (t.L - 1))[p]) ∧ Below w.heap.size w w' := by
  have HW : Hid (∃ W0, W0 = w.alloc (.cells #[.int .i64 0, .int .i64 0, .string ⟨#[]⟩] 38) ∧ Ext w W0 ∧ Row W0 w.heap.size 38 [.int .i64 0, .int .i64 0, .string ⟨#[]⟩]) := ⟨_, rfl, (Ext.refl w).alloc _, Row.new w 38 [.int .i64 0, .int .i64 0, .string ⟨#[]⟩]⟩
  obtain ⟨W0, hW0, he, hrow⟩ := HW.out
  clear HW
  have hi' := hi.ext he
  have h' := h.below he.below hB
  have hB' : B ≤ W0.heap.size := Nat.le_trans hB he.size
  have c0 := hi'.c0
  have c1 := hi'.c1
  have hg := hi.lt
  obtain ⟨b, o, VA, VC, FA, FC, rfl, hb, h3, h4, h5, h6, h7, h8⟩ := h' (t.L - 1) (by omega)
  obtain ⟨b2, o2, rfl, hb2, e1, e2, e3⟩ := slR_at h7 hp
  generalize (vs (t.L - 1))[p] = z at *
  generalize (vs (t.L - 1)).length = n at *
  obtain ⟨L, hL'⟩ : ∃ L, t.L = L + 1 := ⟨t.L - 1, by omega⟩
  rw [hL'] at c1 h3 hLd
  rw [Nat.add_sub_cancel] at h3
  rw [Int.natCast_add, Int.natCast_one] at c1
  have HE := Lib.hid he
  have HROW := Lib.hid hrow
  have r0 := hrow.cell 0
  have r1 := hrow.cell 1
  have r2 := hrow.cell 2
  have f0 := hrow.frozen 0
  have f1 := hrow.frozen 1
  have f2 := hrow.frozen 2
  simp only [List.getElem?_cons_zero, List.getElem?_cons_succ] at r0 r1 r2
  clear h h' h7 h8 h4 hi hi' hL hL' he hrow
  have g1 : (0 : Int) ≤ (L : Int) := by omega
  have g2 : (L : Int) < (d : Int) := by omega
  have g3 : (0 : Int) ≤ (p : Int) := by omega
  have g4 : (p : Int) < (n : Int) := by omega
  have hw1 : IntKind.i64.wrap (L : Int) = (L : Int) := IntWalk.i64_in _ (by omega)
  go_enter Try.func34, Try.ntmps34
  go_wp2
  rw [← hW0]
  clear hW0
  go_still_tail 16, (by kernel_rfl)
  go_wp2
  refine bodyPost_ret (v := vv z) ?_ rfl ⟨rfl, ?_⟩
  · have z0 := (HROW.out.set 0 (.int .i64 z.kind)).cell 0
    have z1 := ((HROW.out.set 0 (.int .i64 z.kind)).set 1 (.int .i64 z.int)).cell 1
    have z2 := (((HROW.out.set 0 (.int .i64 z.kind)).set 1 (.int .i64 z.int)).set 2 (.string z.str)).cell 2
    simp only [List.set_cons_zero, List.set_cons_succ, List.getElem?_cons_zero, List.getElem?_cons_succ] at z0 z1 z2
    simp [results, Try.results34, go_sem, z0, z1, z2]
  · exact ((HE.out.drew.below.setCell (p := ⟨w.heap.size, 0, none⟩) (Nat.le_refl _) _).setCell (p := ⟨w.heap.size, 1, none⟩) (Nat.le_refl _) _).setCell (p := ⟨w.heap.size, 2, none⟩) (Nat.le_refl _) _

set_option maxHeartbeats 1000000 in
set_option maxRecDepth 100000 in
theorem tiLess_any (B g : Nat) (LA : Option Addr) (d C : Nat) (vs : Nat → RL.R) (fs : Nat → List Nat) (t : It) (p : Nat) (v : RL.V) (w : World) (h : TrM B w LA d vs fs) (hB : B ≤ w.heap.size) (hBg : B ≤ g) (hi : ItM w g LA d C t) (hd : d ≤ 1000000) (hL : 0 < t.L) (hLd : t.L ≤ d) (hp : p < (vs (t.L - 1)).length) (hvl : (vs (t.L - 1)).length ≤ 1000000) (hst : t.steps ≤ 1000000000000000000) :
    Calls Try.prog 33 #[.pointer (some ⟨g, 0, none⟩), .int .i64 p, vv v] w fun e w' => e = .returned (.bool (decide (RL.cmpV (vs (t.L - 1))[p] v < 0))) ∧ ItM w' g LA d C { t with steps := t.steps + 1 } ∧ w.grownBy w' (some g) := by
  obtain ⟨W1, hW1⟩ : ∃ W1, W1 = (w.setCell ⟨g, 68, none⟩ (.int .i64 ((t.steps + 1 : Nat) : Int))).alloc (.cells #[.int .i64 v.kind, .int .i64 v.int, .string v.str] 38) := ⟨_, rfl⟩
  have hg := hi.lt
  have hgr : w.grownBy W1 (some g) := by
    rw [hW1]
    exact grown_trans (grown_set w g 68 _) (((Ext.refl (w.setCell ⟨g, 68, none⟩ (.int .i64 ((t.steps + 1 : Nat) : Int)))).alloc _).grown _)
  have hi1 : ItM W1 g LA d C { t with steps := t.steps + 1 } := by rw [hW1]; exact (hi.setSteps (t.steps + 1)).ext ((Ext.refl _).alloc _)
  have hr1 : Row W1 w.heap.size 38 (vcells v) := by
    rw [hW1]
    have hh := Row.new (w.setCell ⟨g, 68, none⟩ (.int .i64 ((t.steps + 1 : Nat) : Int))) 38 (vcells v)
    rw [show (w.setCell ⟨g, 68, none⟩ (.int .i64 ((t.steps + 1 : Nat) : Int))).heap.size = w.heap.size by simp] at hh
    exact hh
  have hT1 : TrM B W1 LA d vs fs := h.grown hgr hBg hB
  have HV := Lib.hid (tiValue_any B g LA d C vs fs { t with steps := t.steps + 1 } p W1.drew hT1 (Nat.le_trans hB hgr.size) hi1 hd hL hLd hp hvl)
  have c68 := hi.c68
  have f68 := hi.fr 68
  have HI1 := Lib.hid hi1
  have HGR := Lib.hid hgr
  have HR1 := Lib.hid hr1
  have HCMP := Lib.hid (fun W => vCompare_any (vs (t.L - 1))[p] v W)
  have n0 : W1.cell? ⟨w.heap.size, 0, none⟩ = some (.int .i64 v.kind) := hr1.cell 0
  have n1 : W1.cell? ⟨w.heap.size, 1, none⟩ = some (.int .i64 v.int) := hr1.cell 1
  have n2 : W1.cell? ⟨w.heap.size, 2, none⟩ = some (.string v.str) := hr1.cell 2
  have hz1 := hr1.lt
  simp only at HV
  clear h hi hi1 hgr hr1 hT1
  generalize (vs (t.L - 1))[p] = z at *
  generalize t.steps = st at *
  obtain ⟨q, hq⟩ : ∃ q, q = RL.cmpV z v := ⟨_, rfl⟩
  rw [← hq] at HCMP
  rw [← hq]
  clear hq
  go_enter Try.func33, Try.ntmps33
  go_wp2
  rw [show (st : Int) + 1 = ((st + 1 : Nat) : Int) by omega, ← hW1]
  clear hW1
  go_region_held3 (fun w' => w'.cell? ⟨w.heap.size, 0, none⟩ = some (.int .i64 v.kind) ∧ w'.cell? ⟨w.heap.size, 1, none⟩ = some (.int .i64 v.int) ∧ w'.cell? ⟨w.heap.size, 2, none⟩ = some (.string v.str)) (first | exact KEEP2 | exact KEEP | exact ⟨n0, n1, n2⟩ | go_keep)
    (first
      | (go_at_call 46; refine (HCMP.out w2).mono ?_; rintro e w3 ⟨rfl, hx⟩
         have HB3 := Lib.hid (Below.then HB2.out hx.below HB2.out.size)
         have KEEP2 : w3.cell? ⟨w.heap.size, 0, none⟩ = some (.int .i64 v.kind) ∧ w3.cell? ⟨w.heap.size, 1, none⟩ = some (.int .i64 v.int) ∧ w3.cell? ⟨w.heap.size, 2, none⟩ = some (.string v.str) := ⟨(HR1.out.up HB3.out).cell 0, (HR1.out.up HB3.out).cell 1, (HR1.out.up HB3.out).cell 2⟩
         clear hx)
      | (go_at_call 34; refine HV.out.mono ?_; rintro e w2 ⟨rfl, hb0⟩
         have hb := Below.undrew hb0
         have HB2 := Lib.hid hb
         have KEEP : w2.cell? ⟨w.heap.size, 0, none⟩ = some (.int .i64 v.kind) ∧ w2.cell? ⟨w.heap.size, 1, none⟩ = some (.int .i64 v.int) ∧ w2.cell? ⟨w.heap.size, 2, none⟩ = some (.string v.str) := ⟨(HR1.out.up hb).cell 0, (HR1.out.up hb).cell 1, (HR1.out.up hb).cell 2⟩
         clear hb hb0)
      | fail)
  all_goals
    go_wp2
    go_ret
    exact ⟨rfl, HI1.out.up HB3.out, grown_below HGR.out HB3.out HGR.out.size⟩

end Go.Proofs.Ytlcammcifjihpaa
end

section
/- A trie that is being built: its levels in memory; append of a value or of a number at a step of a drawn region. -/
namespace Go.Proofs.Ytlcammcifjihpaa
open Go.RowKit Go.Sort

theorem intInfo : (Try.prog.info? 3).map (fun i => (i.zero, i.size, i.bytes)) = some (some (.int .i64 0), 1, 8) := by kernel_rfl

/-- append of one value, laid in a block of its own, to a row of the call's own, at a step of a region that draws its order. -/
theorem stepV {w : World} {ops : Array Oper} {o : Oper} {a : Act} {K : Act → World → Prop} {Q : Exit → Act → World → Prop} {E : Prop} (hgd : o.guard = none) (s x : Operand)
    (ho : o.op = .call { callee := .builtin .append, args := #[s, x], argTypes := #[46, 46] })
    (base : Nat) (v : Value) (l : RL.R) (hs : a.eval s = v) (hown : w.ownsRow base 38 3 v l.length (rcells l))
    (gt : Nat) (z : RL.V) (hx : a.eval x = .slice (some ⟨gt, 0, none⟩) 1 1) (hg : Row w gt 38 (vcells z))
    (hn : l.length ≤ 1000000) (hbase : base ≤ w.heap.size)
    (h : ∀ g cap w', w'.ownsRow base 38 3 (.slice (some ⟨g, 0, none⟩) (l.length + 1) cap) (l.length + 1) (rcells (l ++ [z])) → w.grownBy w' v.ownBlock → (v.ownBlock = some g ∨ g = w.heap.size) → K (a.put o.dst (.slice (some ⟨g, 0, none⟩) (l.length + 1) cap)) w') :
    if Region.wanted o (yielded ops a.tmps) = true then Oper.wp Try.prog o a w K Q else E := by
  obtain ⟨i0, hi0, hz0, hz1, hz2⟩ := info_parts valInfo
  refine step_append_lies w hgd s x 46 ho base 38 i0 _ 3 32 Try.underlying46 hi0 hz0 hz1 hz2 rfl (by decide) v l.length (rcells l) hs hown ⟨gt, 0, none⟩ 1 1 (vcells z) hx rfl ?_ ?_ (by decide) (by simp only [maxLen]; omega) (by omega) hbase w.heap.size rfl ?_
  · intro j u hu
    have := hg.cell j
    rw [hu] at this
    rw [Addr.add_lit, Nat.zero_add]
    exact this
  · intro u hu; simp [vcells] at hu; rcases hu with rfl | rfl | rfl <;> rfl
  · intro g cap w' k1 k2 k3 _
    refine h g cap w' ?_ k2 k3
    rw [rcells_append]
    have : rcells [z] = vcells z := by simp [rcells]
    rw [this]
    exact k1
/-- append of one number. -/
theorem stepI {w : World} {ops : Array Oper} {o : Oper} {a : Act} {K : Act → World → Prop} {Q : Exit → Act → World → Prop} {E : Prop} (hgd : o.guard = none) (s x : Operand)
    (ho : o.op = .call { callee := .builtin .append, args := #[s, x], argTypes := #[25, 25] })
    (base : Nat) (v : Value) (l : List Nat) (hs : a.eval s = v) (hown : w.ownsRow base 3 1 v l.length (l.map fun z : Nat => Value.int .i64 (z : Int)))
    (gt : Nat) (z : Nat) (hx : a.eval x = .slice (some ⟨gt, 0, none⟩) 1 1) (hg : Row w gt 3 [.int .i64 (z : Int)])
    (hn : l.length ≤ 1000000) (hbase : base ≤ w.heap.size)
    (h : ∀ g cap w', w'.ownsRow base 3 1 (.slice (some ⟨g, 0, none⟩) (l.length + 1) cap) (l.length + 1) ((l ++ [z]).map fun z : Nat => Value.int .i64 (z : Int)) → w.grownBy w' v.ownBlock → (v.ownBlock = some g ∨ g = w.heap.size) → K (a.put o.dst (.slice (some ⟨g, 0, none⟩) (l.length + 1) cap)) w') :
    if Region.wanted o (yielded ops a.tmps) = true then Oper.wp Try.prog o a w K Q else E := by
  obtain ⟨i0, hi0, hz0, hz1, hz2⟩ := info_parts intInfo
  refine step_append_lies w hgd s x 25 ho base 3 i0 _ 1 8 Try.underlying25 hi0 hz0 hz1 hz2 rfl (by decide) v l.length _ hs hown ⟨gt, 0, none⟩ 1 1 [.int .i64 (z : Int)] hx rfl ?_ ?_ (by decide) (by simp only [maxLen]; omega) (by omega) hbase w.heap.size rfl ?_
  · intro j u hu
    have := hg.cell j
    rw [hu] at this
    rw [Addr.add_lit, Nat.zero_add]
    exact this
  · intro u hu; simp at hu; subst hu; rfl
  · intro g cap w' k1 k2 k3 _
    refine h g cap w' ?_ k2 k3
    rw [List.map_append]
    exact k1

/-- A block lb of n slices of the call's own, each in a block of its own from B on that Q allows; sp tells what each holds. -/
def OwnAll (B : Nat) (Q : Nat → Prop) (w : World) (lb : Nat) (T : TypeId) (n : Nat) (sp : Nat → TypeId × Nat × Nat × List Value) : Prop :=
  ∃ hs : List Value, Row w lb T hs ∧ hs.length = n ∧ lb < B ∧ B ≤ w.heap.size ∧
    (∀ (i : Nat) (u : Value), hs[i]? = some u → w.ownsRow B (sp i).1 (sp i).2.1 u (sp i).2.2.1 (sp i).2.2.2) ∧
    (∀ (i j : Nat) (u u' : Value) (k : Nat), hs[i]? = some u → hs[j]? = some u' → i ≠ j → u.ownBlock = some k → u'.ownBlock ≠ some k) ∧ (∀ (i : Nat) (u : Value) (k : Nat), hs[i]? = some u → u.ownBlock = some k → Q k)

section
variable {B : Nat} {Q : Nat → Prop} {w w' : World} {lb n : Nat} {T : TypeId} {sp : Nat → TypeId × Nat × Nat × List Value}
theorem OwnAll.up (h : OwnAll B Q w lb T n sp) (hb : Below w.heap.size w w') : OwnAll B Q w' lb T n sp := by
  obtain ⟨hs, h1, h2, h3, h3', h4, h5, h6⟩ := h
  exact ⟨hs, h1.up hb, h2, h3, Nat.le_trans h3' hb.size, fun i u hu => own_keep (h4 i u hu) hb, h5, h6⟩
theorem OwnAll.weak {Q' : Nat → Prop} (h : OwnAll B Q w lb T n sp) (hQ : ∀ k, k < w.heap.size → Q k → Q' k) : OwnAll B Q' w lb T n sp := by
  obtain ⟨hs, h1, h2, h3, h3', h4, h5, h6⟩ := h
  exact ⟨hs, h1, h2, h3, h3', h4, h5, fun i u k hu hk => hQ k (own_lt (h4 i u hu) k hk) (h6 i u k hu hk)⟩
theorem OwnAll.lt (h : OwnAll B Q w lb T n sp) : lb < w.heap.size := by obtain ⟨hs, h1, _⟩ := h; exact h1.lt
/-- The slice at a place. -/
theorem OwnAll.at_ (h : OwnAll B Q w lb T n sp) {i : Nat} (hi : i < n) : ∃ u, w.cell? ⟨lb, i, none⟩ = some u ∧ w.ownsRow B (sp i).1 (sp i).2.1 u (sp i).2.2.1 (sp i).2.2.2 ∧ (∀ k, u.ownBlock = some k → Q k) ∧ w.frozen? ⟨lb, i, none⟩ = false := by
  obtain ⟨hs, h1, h2, h3, h3', h4, h5, h6⟩ := h
  have hi' : i < hs.length := by omega
  exact ⟨hs[i], by rw [h1.cell, List.getElem?_eq_getElem hi'], h4 i _ (List.getElem?_eq_getElem hi'), fun k hk => h6 i _ k (List.getElem?_eq_getElem hi') hk, h1.frozen i⟩
/-- One slice was appended to, and its new header is stored. -/
theorem OwnAll.put (h : OwnAll B Q w lb T n sp) {i : Nat} {v : Value} (hv : w.cell? ⟨lb, i, none⟩ = some v) {sp' : Nat → TypeId × Nat × Nat × List Value} (hsp : ∀ j, j ≠ i → sp' j = sp j) {u : Value} {w2 : World}
    (hown : w2.ownsRow B (sp' i).1 (sp' i).2.1 u (sp' i).2.2.1 (sp' i).2.2.2) (hg : w.grownBy w2 v.ownBlock) (hat : ∀ k, u.ownBlock = some k → v.ownBlock = some k ∨ w.heap.size ≤ k) (hQ : ∀ k, u.ownBlock = some k → Q k) : OwnAll B Q (w2.setCell ⟨lb, i, none⟩ u) lb T n sp' := by
  obtain ⟨hs, h1, h2, h3, h3', h4, h5, h6⟩ := h
  rw [h1.cell] at hv
  have hi : i < hs.length := (List.getElem?_eq_some_iff.1 hv).1
  have hvB : ∀ k, v.ownBlock = some k → B ≤ k := fun k hk => own_base (h4 i v hv) hk
  have hlb : some lb ≠ v.ownBlock := fun e => by have := hvB lb e.symm; omega
  have hr2 := h1.grown hg hlb
  refine ⟨hs.set i u, hr2.set i u, by simpa using h2, h3, ?_, fun j u' hu' => ?_, fun a b ua ub k ha hb hne hk => ?_, fun j u' k hu' hk => ?_⟩
  · have := hg.size; simpa using Nat.le_trans h3' this
  · by_cases e : j = i
    · subst e
      rw [List.getElem?_set_self hi] at hu'
      injection hu' with hu'
      subst hu'
      exact own_far hown (p := ⟨lb, j, none⟩) (fun e => by have := own_base hown e; simp only at this; omega) _
    · rw [List.getElem?_set_ne (fun e' => e e'.symm)] at hu'
      rw [hsp j e]
      have ho := h4 j u' hu'
      refine own_far (own_grown ho hg (fun k hk e' => ?_)) (p := ⟨lb, i, none⟩) (fun e' => by have := own_base ho e'; simp only at this; omega) _
      exact h5 j i u' v k hu' hv e hk e'.symm
  · have key : ∀ (a b : Nat) (ub : Value), a = i → b ≠ i → (hs.set i u)[b]? = some ub → u.ownBlock = some k → ub.ownBlock ≠ some k := fun a b ub ha hb hub hk e => by
      rw [List.getElem?_set_ne (fun e' => hb e'.symm)] at hub
      rcases hat k hk with h | h
      · exact h5 b i ub v k hub hv hb e h
      · have := own_lt (h4 b ub hub) k e
        omega
    by_cases e1 : a = i
    · subst e1
      rw [List.getElem?_set_self hi] at ha
      injection ha with ha
      subst ha
      exact key a b ub rfl (fun e => hne e.symm) hb hk
    · by_cases e2 : b = i
      · subst e2
        rw [List.getElem?_set_self hi] at hb
        injection hb with hb
        subst hb
        intro e
        exact key b a ua rfl e1 ha e hk
      · rw [List.getElem?_set_ne (fun e' => e1 e'.symm)] at ha
        rw [List.getElem?_set_ne (fun e' => e2 e'.symm)] at hb
        exact h5 a b ua ub k ha hb hne hk
  · by_cases e : j = i
    · subst e
      rw [List.getElem?_set_self hi] at hu'
      injection hu' with hu'
      subst hu'
      exact hQ k hk
    · rw [List.getElem?_set_ne (fun e' => e e'.symm)] at hu'
      exact h6 j u' k hu' hk
end

/-- What the slices of a trie's levels hold: values and numbers in turn. -/
def spF (vs : Nat → RL.R) (fs : Nat → List Nat) (i : Nat) : TypeId × Nat × Nat × List Value :=
  if i % 2 = 0 then (38, 3, (vs (i / 2)).length, rcells (vs (i / 2))) else (3, 1, (fs (i / 2)).length, (fs (i / 2)).map fun z : Nat => Value.int .i64 (z : Int))
theorem spF_v (vs : Nat → RL.R) (fs : Nat → List Nat) (l : Nat) : spF vs fs (l * 2) = (38, 3, (vs l).length, rcells (vs l)) := by
  unfold spF
  rw [if_pos (by omega), show l * 2 / 2 = l by omega]
theorem spF_f (vs : Nat → RL.R) (fs : Nat → List Nat) (l : Nat) : spF vs fs (l * 2 + 1) = (3, 1, (fs l).length, (fs l).map fun z : Nat => Value.int .i64 (z : Int)) := by
  unfold spF
  rw [if_neg (by omega), show (l * 2 + 1) / 2 = l by omega]
/-- A function turned at one place. -/
def upd {α : Type} (f : Nat → α) (l : Nat) (a : α) (j : Nat) : α := if j = l then a else f j
theorem upd_self {α : Type} (f : Nat → α) (l : Nat) (a : α) : upd f l a l = a := if_pos rfl
theorem spF_updv (vs : Nat → RL.R) (fs : Nat → List Nat) (l : Nat) (a : RL.R) : ∀ j, j ≠ l * 2 → spF (upd vs l a) fs j = spF vs fs j := fun j hj => by
  unfold spF
  split
  · unfold upd; rw [if_neg (by omega)]
  · rfl
theorem spF_updf (vs : Nat → RL.R) (fs : Nat → List Nat) (l : Nat) (a : List Nat) : ∀ j, j ≠ l * 2 + 1 → spF vs (upd fs l a) j = spF vs fs j := fun j hj => by
  unfold spF
  split
  · rfl
  · unfold upd; rw [if_neg (by omega)]

/-- The levels of a trie that is being built. -/
abbrev BldM (B : Nat) (Q : Nat → Prop) (w : World) (lb d : Nat) (vs : Nat → RL.R) (fs : Nat → List Nat) : Prop := OwnAll B Q w lb 74 (d * 2) (spF vs fs)
/-- What a trie under way reads as. -/
theorem BldM.tr {B : Nat} {Q : Nat → Prop} {w : World} {lb d : Nat} {vs : Nat → RL.R} {fs : Nat → List Nat} (h : BldM B Q w lb d vs fs) : TrM w.heap.size w (some ⟨lb, 0, none⟩) d vs fs := fun l hl => by
  have hlt := OwnAll.lt h
  obtain ⟨v, g1, g3, -, -⟩ := OwnAll.at_ h (show l * 2 < d * 2 by omega)
  obtain ⟨f, g2, g4, -, -⟩ := OwnAll.at_ h (show l * 2 + 1 < d * 2 by omega)
  rw [spF_v] at g3
  rw [spF_f] at g4
  obtain ⟨-, VA, VC, rfl, q1, q2, q3, -⟩ := SlR.of_own g3
  obtain ⟨FA, FC, e1, e2, e3, e4⟩ := Sl.of_own g4
  rw [List.length_map] at e1
  subst e1
  refine ⟨lb, 0, VA, VC, FA, FC, rfl, hlt, ?_, ?_, q1, q2, q3, e4⟩
  · rw [Nat.zero_add]; exact g1
  · rw [Nat.zero_add]; exact g2

end Go.Proofs.Ytlcammcifjihpaa
end

section
/- Drawn regions that end in one operation that waits for all others (a store): what the loads need is asked behind every operation but that last one. -/
namespace Go.Proofs.Ytlcammcifjihpaa
open Go.RowKit Go.Sort

section
variable {P : Program} {ops : Array Oper} {Q : Exit → Act → World → Prop} {md : Region.Mode} {S : World → Prop} {z : Nat}

/-- Whatever order is picked from here on; S holds behind every operation but number z. -/
def wpAnyZ (P : Program) (md : Region.Mode) (ops : Array Oper) (Q : Exit → Act → World → Prop) (S : World → Prop) (z : Nat) : Nat → Array Bool → Act → World → Prop
  | 0, listed, a, w => Region.ready md ops listed = [] ∧ Q .normal a w
  | fuel + 1, listed, a, w =>
    (Region.ready md ops listed = [] → Q .normal a w) ∧
    ∀ i ∈ Region.ready md ops listed, wpOp P ops Q i (fun a' w' => (i ≠ z → S w') ∧ wpAnyZ P md ops Q S z fuel (listed.setIfInBounds i true) a' w') a w

theorem wpAny_of_Z : ∀ (fuel : Nat) (listed : Array Bool) (a : Act) (w : World), wpAnyZ P md ops Q S z fuel listed a w → wpAny P md ops Q fuel listed a w
  | 0, _, _, _, h => h
  | fuel + 1, _, _, _, h => ⟨h.1, fun i hi => wpOp_mono (fun a' w' h' => wpAny_of_Z fuel _ a' w' h'.2) (h.2 i hi)⟩

/-- Those that an operation waits for. -/
def preds (md : Region.Mode) (ops : Array Oper) (k : Nat) : List Nat :=
  match ops[k]? with
  | some o => (o.after.toList.filter (Region.binds md)).map (·.on)
  | none => []
/-- Those that it waits for through others. -/
def reach (md : Region.Mode) (ops : Array Oper) (z : Nat) : Nat → List Nat
  | 0 => preds md ops z
  | n + 1 => reach md ops z n ++ (reach md ops z n).flatMap (preds md ops)
/-- Number z waits for all others. -/
def lastB (md : Region.Mode) (ops : Array Oper) (z : Nat) : Bool := (List.range ops.size).all fun i => i == z || (reach md ops z 1).contains i
/-- What has come up had all that it waits for before it. -/
def Cl (md : Region.Mode) (ops : Array Oper) (listed : Array Bool) : Prop := ∀ k, listed.getD k false = true → ∀ j ∈ preds md ops k, listed.getD j false = true
def clB (md : Region.Mode) (ops : Array Oper) (listed : Array Bool) : Bool := (List.range listed.size).all fun k => !(listed.getD k false) || (preds md ops k).all fun j => listed.getD j false
theorem Cl.of {listed : Array Bool} (h : clB md ops listed = true) : Cl md ops listed := fun k hk j hj => by
  unfold clB at h
  simp only [List.all_eq_true, List.mem_range] at h
  have hsz : k < listed.size := by
    rcases Nat.lt_or_ge k listed.size with h' | h'
    · exact h'
    · simp [Array.getElem?_eq_none h'] at hk
  have h1 := h k hsz
  rw [hk] at h1
  simp only [Bool.not_true, Bool.false_or, List.all_eq_true] at h1
  exact h1 j hj
theorem ready_preds {listed : Array Bool} {j : Nat} (hr : j ∈ Region.ready md ops listed) : ∀ i ∈ preds md ops j, listed.getD i false = true := fun i hi => by
  obtain ⟨_, o, ho, hall⟩ := mem_ready.1 hr
  unfold preds at hi
  rw [ho] at hi
  simp only [List.mem_map, List.mem_filter, Array.mem_toList_iff] at hi
  obtain ⟨e, ⟨he, hb⟩, rfl⟩ := hi
  exact hall e he hb
theorem Cl.step {listed : Array Bool} {j : Nat} (h : Cl md ops listed) (hr : j ∈ Region.ready md ops listed) : Cl md ops (listed.setIfInBounds j true) := fun k hk i hi => by
  by_cases e : j = k
  · subst e; exact getD_set_true (ready_preds hr i hi)
  · rw [getD_set_ne false e] at hk
    exact getD_set_true (h k hk i hi)
theorem reach_listed {listed : Array Bool} (hc : Cl md ops listed) (hr : z ∈ Region.ready md ops listed) : ∀ n, ∀ i ∈ reach md ops z n, listed.getD i false = true
  | 0, i, hi => ready_preds hr i hi
  | n + 1, i, hi => by
    unfold reach at hi
    rw [List.mem_append, List.mem_flatMap] at hi
    rcases hi with hi | ⟨k, hk, hi⟩
    · exact reach_listed hc hr n i hi
    · exact hc k (reach_listed hc hr n k hk) i hi
theorem last_alone (hz : lastB md ops z = true) {listed : Array Bool} (hc : Cl md ops listed) {i : Nat} (hr : z ∈ Region.ready md ops listed) (hi : i ∈ Region.ready md ops listed) : i = z := by
  obtain ⟨hun, oi, hoi, _⟩ := mem_ready.1 hi
  unfold lastB at hz
  simp only [List.all_eq_true, List.mem_range] at hz
  have hsz : i < ops.size := by
    rcases Nat.lt_or_ge i ops.size with h | h
    · exact h
    · rw [Array.getElem?_eq_none h] at hoi; cases hoi
  have h1 := hz i hsz
  rw [Bool.or_eq_true] at h1
  rcases h1 with h1 | h1
  · simpa using h1
  · have h3 := reach_listed hc hr 1 i (by simpa using h1)
    rcases Nat.lt_or_ge i listed.size with h | h
    · simp [h] at hun h3
      rw [hun] at h3
      cases h3
    · simp [Array.getElem?_eq_none h] at h3

/-- An operation that may come up and yields its value in every world that meets S may be taken first. -/
theorem wpAnyZ_first (hz : lastB md ops z = true) {i : Nat} {oi : Oper} {v : Value} (hiz : i ≠ z) (hi : ops[i]? = some oi) (hsel : ∀ (j : Nat) (o : Oper) cs b, ops[j]? = some o → o.op ≠ .select cs b)
    (hQ : ∀ c a w, Q (.panic c) (a.put oi.dst v) w → Q (.panic c) a w) :
    ∀ (fuel : Nat) (listed : Array Bool) (a : Act) (w : World), Cl md ops listed →
      (∀ j oj, ops[j]? = some oj → j ≠ i → listed.getD j true = false → (∀ e ∈ oj.after, Region.binds md e = true → e.on ≠ i) → oi.apart ops oj = true) →
      i ∈ Region.ready md ops listed → YieldsIf P ops S oi v a → S w →
      wpAnyZ P md ops Q S z fuel (listed.setIfInBounds i true) (a.put oi.dst v) w → wpAnyZ P md ops Q S z (fuel + 1) listed a w
  | 0, listed, a, w, _, _, hr, hy, hS, H => by
    refine ⟨fun h => (by rw [h] at hr; cases hr), fun j hj => ?_⟩
    by_cases hji : j = i
    · subst hji; exact hy.wpOp hi hS ⟨fun _ => hS, H⟩
    · have := ready_mono hj hji
      rw [H.1] at this
      cases this
  | fuel + 1, listed, a, w, hc, hfree, hr, hy, hS, H => by
    refine ⟨fun h => (by rw [h] at hr; cases hr), fun j hj => ?_⟩
    by_cases hji : j = i
    · subst hji; exact hy.wpOp hi hS ⟨fun _ => hS, H⟩
    · have hjz : j ≠ z := fun e => by subst e; exact hiz (last_alone hz hc hj hr)
      have h1 := H.2 j (ready_mono hj hji)
      obtain ⟨hjun, oj, hoj, hall⟩ := mem_ready.1 hj
      have hnot : ∀ e ∈ oj.after, Region.binds md e = true → e.on ≠ i := fun e he hb heq => by
        have h2 := hall e he hb
        have h0 := (mem_ready.1 hr).1
        rw [heq] at h2
        rcases Nat.lt_or_ge i listed.size with h' | h'
        · simp [h'] at h0 h2; rw [h0] at h2; cases h2
        · simp [Array.getElem?_eq_none h'] at h2
      have h2 := wpOp_putIf hoj (hfree j oj hoj hji hjun hnot) (fun cs b => hsel i oi cs b hi) (fun cs b => hsel j oj cs b hoj) hQ hy h1
      refine wpOp_mono (fun a' w' h3 => ⟨h3.2.1, wpAnyZ_first hz hiz hi hsel hQ fuel (listed.setIfInBounds j true) a' w' (hc.step hj) (fun k ok hk hki hun hno => ?_) (ready_mono hr (Ne.symm hji)) h3.1 (h3.2.1 hjz) ?_⟩) h2
      · refine hfree k ok hk hki ?_ hno
        by_cases hjk : j = k
        · subst hjk; exact hjun
        · rw [getD_set_ne true hjk] at hun; exact hun
      · rw [Array.setIfInBounds_comm _ _ hji]
        exact h3.2.2

/-- Take number i first. -/
theorem takeZ {i : Nat} {oi : Oper} {v : Value} {fuel : Nat} {listed : Array Bool} {a : Act} {w : World} (d : Option Tmp) (hi : ops[i]? = some oi) (hd : oi.dst = d)
    (hz : lastB md ops z = true) (hiz : i ≠ z) (hcl : clB md ops listed = true) (hs : Region.noSelect ops = true) (hf : Region.free md ops listed i = true) (hr : (Region.ready md ops listed).contains i = true)
    (hQ : ∀ c a w, Q (.panic c) (a.put d v) w → Q (.panic c) a w) (hy : YieldsIf P ops S oi v a) (hS : S w)
    (h : wpAnyZ P md ops Q S z fuel (listed.setIfInBounds i true) (a.put d v) w) : wpAnyZ P md ops Q S z (fuel + 1) listed a w := by
  subst hd
  exact wpAnyZ_first hz hiz hi (Region.noSelect_spec hs) hQ fuel listed a w (Cl.of hcl) (Region.free_spec hi hf) (by simpa using hr) hy hS h
/-- Number i alone may come up. -/
theorem oneZ {i : Nat} {o : Oper} {fuel : Nat} {listed : Array Bool} {a : Act} {w : World} (hr : Region.ready md ops listed = [i]) (ho : ops[i]? = some o) (hiz : i ≠ z)
    (h : ∀ K' : Act → World → Prop, Shut (∀ a w, S w → (S w → wpAnyZ P md ops Q S z fuel (listed.setIfInBounds i true) a w) → K' a w) → if Region.wanted o (yielded ops a.tmps) = true then Oper.wp P o a w K' Q else K' (a.put o.dst undef) w) :
    wpAnyZ P md ops Q S z (fuel + 1) listed a w := by
  refine ⟨(fun h0 => by rw [hr] at h0; cases h0), fun j hj => ?_⟩
  rw [hr] at hj
  obtain rfl : j = i := by simpa using hj
  exact wpOp_step ho (fun K' hK => h K' (fun a w hS hW => hK a w ⟨fun _ => hS, hW hS⟩))
/-- The last one: nothing is asked behind it but what follows the region. -/
theorem lastZ {o : Oper} {fuel : Nat} {listed : Array Bool} {a : Act} {w : World} (hr : Region.ready md ops listed = [z]) (ho : ops[z]? = some o) (hd : Region.ready md ops (listed.setIfInBounds z true) = [])
    (h : ∀ K' : Act → World → Prop, Shut (∀ a w, Q .normal a w → K' a w) → if Region.wanted o (yielded ops a.tmps) = true then Oper.wp P o a w K' Q else K' (a.put o.dst undef) w) :
    wpAnyZ P md ops Q S z (fuel + 1) listed a w := by
  refine ⟨(fun h0 => by rw [hr] at h0; cases h0), fun j hj => ?_⟩
  rw [hr] at hj
  obtain rfl : j = z := by simpa using hj
  refine wpOp_step ho (fun K' hK => h K' (fun a w hQ => hK a w ⟨fun h => absurd rfl h, ?_⟩))
  cases fuel with
  | zero => exact ⟨hd, hQ⟩
  | succ fuel => exact ⟨fun _ => hQ, by rw [hd]; simp⟩
/-- The beginning. -/
theorem regionZ {id : Nat} {a : Act} {w : World} (z : Nat) (hm : P.follows .mixedOrders = true) (hS : S w.drew)
    (h : S w.drew → wpAnyZ P .any ops Q S z ops.size (Array.replicate ops.size false) a w.drew) : (Code.region id ops true).wp P Q a w :=
  wp_region_any hm (wpAny_of_Z _ _ _ _ (h hS))
end

end Go.Proofs.Ytlcammcifjihpaa
end

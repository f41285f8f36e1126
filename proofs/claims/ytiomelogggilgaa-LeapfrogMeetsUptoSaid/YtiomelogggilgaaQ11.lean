/- Parts of the proof, merged: Y23, Y24, Y25, Y26, Y30. -/
import Derived.Test.YtiomelogggilgaaQ10
import Derived.Test.YtiomelogggilgaaQ5

section
/- Walk: the reference's values. -/
namespace Go.Proofs.Ytiomelogggilgaa
open Go.RowKit Go.Sort

theorem refJ_join {n : Nat} {X : List RA} (hat : ∀ a ∈ X, a.at.Ok n) (hu : ∀ v : Nat, v < n → ∃ a ∈ X, (v : Int) ∈ a.vs) : refJ (X.map RA.at) (fun v => valsF X (v : Int)) n [] = joinF n (X.map RA.at) :=
  refJ_all (fun a ha => by obtain ⟨r, hr, rfl⟩ := List.mem_map.1 ha; exact hat r hr) (fun v hv => by
    obtain ⟨a, ha, h⟩ := hu v hv
    exact ⟨a.at, List.mem_map.2 ⟨a, ha, rfl⟩, List.mem_map.2 ⟨_, h, by simp⟩⟩) (fun v _ => valsF_asc X _) (fun x _ c hx hp => valsF_mem hat hu x c hx hp)

theorem colF_none {X : List RA} {v : Int} (h : ∀ a ∈ X, v ∉ a.vs) : colF X v = none := by
  unfold colF
  rw [List.findSome?_eq_none_iff]
  intro a ha
  rw [Option.map_eq_none_iff, List.findIdx?_eq_none_iff]
  intro u hu
  have : u ≠ v := fun e => h a ha (e ▸ hu)
  simpa using this
theorem colF_at {X : List RA} {v : Int} {i k : Nat} (hi : i < X.length) (h0 : ∀ j (hj : j < X.length), j < i → v ∉ X[j].vs) (hk : k < X[i].vs.length) (hv : X[i].vs[k] = v) (hn : ∀ j (hj : j < X[i].vs.length), j < k → X[i].vs[j] ≠ v) : colF X v = some (X[i], k) := by
  unfold colF
  rw [List.findSome?_eq_some_iff]
  refine ⟨X.take i, X[i], X.drop (i + 1), by rw [← List.drop_eq_getElem_cons hi, List.take_append_drop], ?_, fun a ha => ?_⟩
  · rw [Option.map_eq_some_iff]
    refine ⟨k, ?_, rfl⟩
    rw [List.findIdx?_eq_some_iff_getElem]
    exact ⟨hk, by simpa using hv, fun j hj => by simpa using hn j (by omega) hj⟩
  · obtain ⟨j, hj, rfl⟩ := List.mem_take_iff_getElem.1 ha
    rw [Option.map_eq_none_iff, List.findIdx?_eq_none_iff]
    intro u hu
    have : u ≠ v := fun e => h0 j (by omega) (by omega) (e ▸ hu)
    simpa using this

/-- append of one value to a list of the reference's values of the call's own. -/
theorem appRV {w : World} {ops : Array Oper} {rest : List Oper} {o : Oper} {a : Act} {Q : Exit → Act → World → Prop} (hgd : o.guard = none) (s x : Operand)
    (ho : o.op = .call { callee := .builtin .append, args := #[s, x], argTypes := #[55, 55] })
    (base : Nat) (v : Value) (l : RL.R) (hs : a.eval s = v) (hown : w.ownsRow base 85 3 v l.length (rcells l))
    (gt : Nat) (z : RL.V) (hx : a.eval x = .slice (some ⟨gt, 0, none⟩) 1 1) (hg : Row w gt 85 (vcells z))
    (hn : l.length ≤ 100000000) (hbase : base ≤ w.heap.size)
    (h : ∀ v' w', w'.ownsRow base 85 3 v' (l ++ [z]).length (rcells (l ++ [z])) → w.grownBy w' v.ownBlock → wpList Try.prog ops Q rest (a.put o.dst v') w') : wpList Try.prog ops Q (o :: rest) a w := by
  obtain ⟨i0, hi0, hz0, hz1, hz2⟩ := info_parts r1Info
  refine wpList_append_own w hgd s x 55 ho base 85 i0 _ 3 32 Try.underlying55 hi0 hz0 hz1 hz2 rfl (by decide) v l.length (rcells l) hs hown ⟨gt, 0, none⟩ 1 1 (vcells z) hx rfl ?_ ?_ (by simp only [maxLen]; omega) (by omega) hbase ?_
  · intro j u hu
    have := hg.cell j
    rw [hu] at this
    rw [Addr.add_lit, Nat.zero_add]
    exact this
  · intro u hu; simp [vcells] at hu; rcases hu with rfl | rfl | rfl <;> rfl
  · intro v' w' h1 h2 _
    refine h v' w' ?_ h2
    rw [rcells_append, List.length_append]
    have : rcells [z] = vcells z := by simp [rcells]
    rw [this]
    exact h1
/-- What the reference asks of an atom. -/
structure RefOk (a : RA) : Prop where
  vl : a.vs.length ≤ 1000
  Pl : a.P.length ≤ 60000
  ok : RsOk a.P
  len : ∀ r ∈ a.P, r.length = a.vs.length
  nn : ∀ v ∈ a.vs, 0 ≤ v
/-- The search for the first atom with a variable: i atoms have been looked at, or it is found. -/
def ValR (X : List RA) (v : Int) (w : World) (out c : Value) (wr : World) : Prop :=
  ((∃ i : Nat, i ≤ X.length ∧ c = .int .i64 i ∧ out = .slice none 0 0 ∧ ∀ j (hj : j < X.length), j < i → v ∉ X[j].vs) ∨ (c = .int .i64 ((X.length + 1 : Nat) : Int) ∧ ∃ a k, colF X v = some (a, k) ∧ a ∈ X ∧ RowsIs wr (RL.ofF (a.P.map (projF · [(k : Int)]))) out)) ∧ Below w.heap.size w wr

set_option maxHeartbeats 8000000 in
set_option maxRecDepth 100000 in
theorem r35values_any (AA : Option Addr) (AC : Nat) (X : List RA) (v : Int) (w : World) (hA : AtsR w.heap.size w AA X) (hXl : X.length ≤ 1000000) (hok : ∀ a ∈ X, RefOk a) :
    Calls Try.prog 34 #[.int .i64 v, .slice AA X.length AC] w fun e w' => ∃ u, e = .returned u ∧ w'.ownsRow w.heap.size 85 3 u (valsF X v).length (rcells (valsF X v)) ∧ Below w.heap.size w w' := by
  have HA := Lib.hid hA
  have HOK := Lib.hid hok
  clear hA hok
  go_enter Try.func34, Try.ntmps34
  go_wp2
  go_loopw [5, 6] (ValR X v w) (fun _ c _ => X.length + 1 - (intOf c).toNat)
  case atStart => exact ⟨.inl ⟨0, Nat.zero_le _, rfl, rfl, fun j _ h => absurd h (by omega)⟩, Below.refl _ _⟩
  case round =>
    obtain ⟨hcase, hb⟩ := hrel
    have HB := Lib.hid hb
    clear hb
    by_cases hgo : ∃ i : Nat, i < X.length ∧ u6 = .int .i64 i ∧ u5 = .slice none 0 0 ∧ ∀ j (hj : j < X.length), j < i → v ∉ X[j].vs
    rotate_left
    · have hex : ∃ (Y : List RL.R) (z : Nat), RowsIs wr Y u5 ∧ (∀ r ∈ Y, r.length = 1) ∧ Y.length ≤ 60000 ∧ valsF X v = Y.map (fun r => r.getD 0 default) ∧ u6 = .int .i64 (z : Nat) ∧ ¬ z < X.length := by
        rcases hcase with ⟨i, hi, h1, h2, h3⟩ | ⟨h1, a, k, hcol, ha, hrows⟩
        · have hie : i = X.length := by
            rcases Nat.lt_or_ge i X.length with h | h
            · exact absurd ⟨i, h, h1, h2, h3⟩ hgo
            · omega
          have hc : colF X v = none := colF_none fun a ha => by
            obtain ⟨j, hj, rfl⟩ := List.getElem_of_mem ha
            exact h3 j hj (by omega)
          refine ⟨[], i, ⟨none, 0, h2, Nat.le_refl _, by omega, SlRs.nil⟩, fun r hr => by simp at hr, by simp, ?_, h1, by omega⟩
          unfold valsF
          rw [hc]
          rfl
        · refine ⟨_, X.length + 1, hrows, fun r hr => ?_, ?_, ?_, h1, by omega⟩
          · obtain ⟨y, _, rfl⟩ := List.mem_map.1 ((RL.mem_ofF _ _).1 hr)
            rfl
          · have := RL.ofF_length_le (a.P.map (projF · [(k : Int)]))
            rw [List.length_map] at this
            exact Nat.le_trans this (HOK.out a ha).Pl
          · unfold valsF
            rw [hcol]
      obtain ⟨Y, z, ⟨YA, YC, rfl, hy1, hy2, hys⟩, hone, hYl, hval, rfl, hz⟩ := hex
      have HYS := Lib.hid hys
      have HONE := Lib.hid hone
      have HVAL := Lib.hid hval
      clear hys hone hval hcase hgo
      have hz2 : ¬ (z : Int) < (X.length : Int) := by omega
      obtain ⟨w1, hw1⟩ : ∃ w1, w1 = wr := ⟨_, rfl⟩
      subst hw1
      go_wp2_with fail
      go_loopw [8, 9] (fun o c wx => ∃ j : Nat, j ≤ Y.length ∧ c = .int .i64 j ∧ wx.ownsRow w1.heap.size 85 3 o ((Y.take j).map fun r => r.getD 0 default).length (rcells ((Y.take j).map fun r => r.getD 0 default)) ∧ Below w1.heap.size w1 wx) (fun _ c _ => Y.length - (intOf c).toNat)
      case atStart => exact ⟨0, Nat.zero_le _, rfl, own_nil _ _ _ _, Below.refl _ _⟩
      case round =>
        obtain ⟨j, hj, rfl, hown, hb⟩ := hrel
        have HOWN := Lib.hid hown
        have HBJ := Lib.hid hb
        have hzz := hb.size
        clear hown hb
        by_cases h3 : j < Y.length
        · obtain ⟨yb, yo, RA', RC, hya, hyb, yc, -, -, hrs⟩ := slRs_at HYS.out h3
          have hl1 := HONE.out _ (List.getElem_mem h3)
          obtain ⟨rb, ro, hra, hrb, r0, r1, r2⟩ := slR_at hrs (i := 0) (by omega)
          subst hya hra
          have yc := (HBJ.out.cell (p := ⟨yb, yo + j, none⟩) hyb).trans yc
          have hyb2 := Nat.lt_of_lt_of_le hyb hzz
          have r0 := (HBJ.out.cell (p := ⟨rb, ro + 0 * 3, none⟩) hrb).trans r0
          have r1 := (HBJ.out.cell (p := ⟨rb, ro + 0 * 3 + 1, none⟩) hrb).trans r1
          have r2 := (HBJ.out.cell (p := ⟨rb, ro + 0 * 3 + 2, none⟩) hrb).trans r2
          simp only [Nat.zero_mul, Nat.add_zero] at r0 r1 r2
          have hrb2 := Nat.lt_of_lt_of_le hrb hzz
          have HT : Hid ((Y.take (j + 1)).map (fun r => r.getD 0 default) = (Y.take j).map (fun r => r.getD 0 default) ++ [(Y[j])[0]]) := by
            show _ = _
            rw [List.take_succ_eq_append_getElem h3, List.map_append]
            congr 1
            rw [List.map_singleton, List.getD_eq_getElem?_getD, List.getElem?_eq_getElem (by omega : 0 < (Y[j]).length)]
            rfl
          rw [hl1] at yc
          generalize (Y[j])[0] = z at *
          have g1 : (0 : Int) ≤ (j : Int) := by omega
          have g2 : (j : Int) < (Y.length : Int) := by omega
          have hw1 : IntKind.i64.wrap ((j : Int) + 1) = ((j + 1 : Nat) : Int) := by rw [IntWalk.i64_in _ (by omega)]; omega
          have hll : ((Y.take j).map fun r => r.getD 0 default).length ≤ 60000 := by simp; omega
          have hwz : w.heap.size ≤ wr.heap.size := Nat.le_trans HB.out.size hzz
          clear hl1
          go_wp2_with
            (at_builtin
             refine appRV rfl (.tmp 52) (.tmp 59) rfl w1.heap.size u8 _ rfl (HOWN.out.alloc _) wr.heap.size z rfl (Row.new wr 85 (vcells z)) (by omega) (by simp; omega) ?_
             intro v' w6 hown6 hg6
             rw [← HT.out] at hown6
             have HO6 := Lib.hid hown6
             have HB6 : Hid (Below w1.heap.size w1 w6) := HBJ.out.trans (app_kept (fun k hk => own_base HOWN.out hk) hzz hg6)
             clear hown6 hg6)
          go_wp2
          go_roundw
          case rel => exact ⟨j + 1, h3, by go_num, HO6.out, HB6.out⟩
          case measure => simp [intOf]; omega
        · have HJ : Hid (j = Y.length) := by show _ = _; omega
          have HFIN : Hid (wr.ownsRow w.heap.size 85 3 u8 (valsF X v).length (rcells (valsF X v))) := by
            have h := HOWN.out
            rw [HJ.out, List.take_length, ← HVAL.out] at h
            exact own_weaken h HB.out.size
          go_wp2
          go_ret
          exact ⟨_, rfl, HFIN.out, HB.out.trans (HBJ.out.mono HB.out.size)⟩
    obtain ⟨i, h1, rfl, rfl, hall⟩ := hgo
    have HALL := Lib.hid hall
    clear hall hcase
    obtain ⟨ab, ao, VA, VC, PA, PC, rfl, hab, c0, c1, q1, q2, q3, q4, q5, q6⟩ := atsR_at HA.out h1
    have c0 := (HB.out.cell (p := ⟨ab, ao + i * 2, none⟩) hab).trans c0
    have c1 := (HB.out.cell (p := ⟨ab, ao + i * 2 + 1, none⟩) hab).trans c1
    have hab2 := Nat.lt_of_lt_of_le hab HB.out.size
    have HVS := Lib.hid q5
    have HPS := Lib.hid q6
    have HRO := Lib.hid (HOK.out _ (List.getElem_mem h1))
    have hvl := (HOK.out _ (List.getElem_mem h1)).vl
    have g1 : (0 : Int) ≤ (i : Int) := by omega
    have g2 : (i : Int) < (X.length : Int) := by omega
    have hw1 : IntKind.i64.wrap ((i : Int) + 1) = ((i + 1 : Nat) : Int) := by rw [IntWalk.i64_in _ (by omega)]; omega
    have hw2 : IntKind.i64.wrap ((X.length : Int) + 1) = ((X.length + 1 : Nat) : Int) := by rw [IntWalk.i64_in _ (by omega)]; omega
    clear q5 q6 q1 q2 q3 q4
    obtain ⟨w1, hw0⟩ : ∃ w1, w1 = wr := ⟨_, rfl⟩
    subst hw0
    go_wp2_with fail
    go_loopw [5, 6, 7] (fun o s c wx => o = .slice none 0 0 ∧ s = .int .i64 i ∧ ∃ k : Nat, k ≤ X[i].vs.length ∧ c = .int .i64 k ∧ (∀ j (hj : j < X[i].vs.length), j < k → X[i].vs[j] ≠ v) ∧ wx = w1) (fun _ _ c _ => X[i].vs.length - (intOf c).toNat)
    case atStart => exact ⟨rfl, rfl, 0, Nat.zero_le _, rfl, fun j _ h => absurd h (by omega), rfl⟩
    case round =>
      obtain ⟨rfl, rfl, k, hk, rfl, hno, rfl⟩ := hrel
      have HNO := Lib.hid hno
      clear hno
      by_cases h2 : k < X[i].vs.length
      · obtain ⟨vb, vo, rfl, hvb, vc⟩ := slI_at HVS.out h2
        have vc := (HB.out.cell (p := ⟨vb, vo + k, none⟩) hvb).trans vc
        have hvb2 := Nat.lt_of_lt_of_le hvb HB.out.size
        have g3 : (0 : Int) ≤ (k : Int) := by omega
        have g4 : (k : Int) < (X[i].vs.length : Int) := by omega
        have hwk : IntKind.i64.wrap ((k : Int) + 1) = ((k + 1 : Nat) : Int) := by rw [IntWalk.i64_in _ (by omega)]; omega
        by_cases hv : X[i].vs[k] = v
        · have HCOL := Lib.hid (colF_at h1 HALL.out h2 hv HNO.out)
          have hnb : (X[i].vs[k] == v) = true := by simp [hv]
          obtain ⟨W2, hW2⟩ : ∃ W2, W2 = wr.alloc (.cells #[.int .i64 (k : Int)] 3) := ⟨_, rfl⟩
          have hr2 : Row W2 wr.heap.size 3 [.int .i64 (k : Int)] := by rw [hW2]; exact Row.new wr 3 _
          have hx2 : Ext wr W2 := by rw [hW2]; exact (Ext.refl wr).alloc _
          have HPR := Lib.hid (r7Project_any PA (some ⟨wr.heap.size, 0, none⟩) PC 1 X[i].P [(k : Int)] W2 ((HPS.out.upB HB.out).up hx2) (fun _ => ⟨wr.heap.size, 0, rfl, hr2.lt, fun j u hu => by rw [Nat.zero_add, hr2.cell]; exact hu⟩) (Nat.le_trans HRO.out.Pl (by omega)) (by simp) HRO.out.ok (fun x hx c hc => by
            simp at hc
            subst hc
            have := HRO.out.len x hx
            omega))
          have HX2 := Lib.hid hx2
          have HMEM : Hid (X[i] ∈ X) := List.getElem_mem h1
          rw [hv] at vc
          have hnb2 : (v == v) = true := by simp
          clear hr2 hx2 hv hnb
          go_wp2_with fail
          rw [← hW2]
          clear hW2
          refine HPR.out.mono ?_
          rintro e w5 ⟨u, rfl, hrows, hb5⟩
          have HROWS := Lib.hid hrows
          have HB5 := Lib.hid (Below.then HB.out (Below.then HX2.out.below hb5 HX2.out.size) HB.out.size)
          clear hrows hb5 HPR
          go_wp2
          go_roundw
          case rel => exact ⟨.inr ⟨by go_num, X[i], k, HCOL.out, HMEM.out, HROWS.out⟩, HB5.out⟩
          case measure => simp [intOf]; omega
        · have hnb : (X[i].vs[k] == v) = false := by simpa using hv
          have HV : Hid (X[i].vs[k] ≠ v) := hv
          clear hv
          generalize hu : X[i].vs[k] = u at vc hnb HV
          have HU := Lib.hid hu
          clear hu
          go_wp2
          go_roundw
          case rel =>
            refine ⟨rfl, rfl, k + 1, h2, by go_num, fun j hj hlt => ?_, by first | rfl | trivial⟩
            rcases Nat.lt_or_ge j k with h | h
            · exact HNO.out j hj h
            · have : j = k := by omega
              subst this
              rw [HU.out]; exact HV.out
          case measure => simp [intOf]; omega
      · have HN2 : Hid (v ∉ X[i].vs) := fun hm => by
          obtain ⟨j, hj, e⟩ := List.getElem_of_mem hm
          exact HNO.out j hj (by omega) e
        go_wp2
        go_roundw
        case rel =>
          refine ⟨.inl ⟨i + 1, h1, by go_num, rfl, fun j hj hlt => ?_⟩, HB.out⟩
          rcases Nat.lt_or_ge j i with h | h
          · exact HALL.out j hj h
          · have : j = i := by omega
            subst this
            exact HN2.out
        case measure => simp [intOf]; omega

end Go.Proofs.Ytiomelogggilgaa
end

section
/- Walk: the reference's Join. -/
namespace Go.Proofs.Ytiomelogggilgaa
open Go.RowKit Go.Sort

theorem flat_len {α : Type} (f : α → List RL.R) (K : Nat) (h : ∀ c, (f c).length ≤ K) : ∀ L : List α, (L.flatMap f).length ≤ L.length * K
  | [] => by simp
  | c :: t => by
    rw [List.flatMap_cons, List.length_append, List.length_cons, Nat.succ_mul, Nat.add_comm]
    exact Nat.add_le_add (flat_len f K h t) (h c)
theorem refJ_len {l : List At} {vals : Nat → RL.R} {M : Nat} (hv : ∀ v, (vals v).length ≤ M) (hM : 1 ≤ M) : ∀ m x, (refJ l vals m x).length ≤ M ^ m
  | 0, x => by
    unfold refJ
    split <;> simp
  | m + 1, x => by
    unfold refJ
    split
    · refine Nat.le_trans (flat_len _ (M ^ m) (fun c => refJ_len hv hM m _) _) ?_
      rw [Nat.pow_succ, Nat.mul_comm (M ^ m)]
      exact Nat.mul_le_mul_right _ (hv _)
    · simp
theorem flat_take {α : Type} (f : α → List RL.R) (L : List α) {i : Nat} (hi : i < L.length) : (L.take (i + 1)).flatMap f = (L.take i).flatMap f ++ f L[i] := by
  rw [List.take_succ_eq_append_getElem hi, List.flatMap_append]
  simp

/-- A list of the reference's rows under way: the call owns the headers; the rows lie in other blocks from base on. -/
def OwnJ (w : World) (base : Nat) (v : Value) (Y : List RL.R) : Prop := ∃ hs, w.ownsRow base 56 1 v Y.length hs ∧ Hdrs (fun b => base ≤ b ∧ v.ownBlock ≠ some b) w.heap.size w hs Y
section
variable {w w' : World} {lo : Nat} {v : Value} {Y : List RL.R}
theorem OwnJ.nil (w : World) (lo : Nat) : OwnJ w lo (.slice none 0 0) [] := ⟨[], own_nil _ _ _ _, Hdrs.nil⟩
theorem OwnJ.up (h : OwnJ w lo v Y) (hb : Below w.heap.size w w') : OwnJ w' lo v Y := by
  obtain ⟨hs, h1, h2⟩ := h
  exact ⟨hs, own_keep h1 hb, (h2.keep fun p hp _ => hb.cell hp).more hb.size⟩
theorem OwnJ.base (h : OwnJ w lo v Y) : ∀ k, v.ownBlock = some k → lo ≤ k := by
  obtain ⟨hs, h1, _⟩ := h
  exact fun k hk => own_base h1 hk
theorem OwnJ.lt (h : OwnJ w lo v Y) : ∀ k, v.ownBlock = some k → k < w.heap.size := by
  obtain ⟨hs, h1, _⟩ := h
  exact own_lt h1
theorem OwnJ.sl {P : Nat → Prop} (h : OwnJ w lo v Y) (hP : ∀ b, lo ≤ b → P b) : ∃ A C, v = .slice A Y.length C ∧ Y.length ≤ C ∧ C ≤ 9223372036854775807 ∧ SlRsP P w.heap.size w A Y := by
  obtain ⟨hs, h1, h2⟩ := h
  exact own_slrs h1 (h2.weak fun b _ hb => hP b hb.1) (Nat.le_refl _) hP
end
/-- append(out, src...) of the reference's rows. -/
theorem appJ {w : World} {ops : Array Oper} {rest : List Oper} {o : Oper} {a : Act} {Q : Exit → Act → World → Prop} (hgd : o.guard = none) (s x : Operand)
    (ho : o.op = .call { callee := .builtin .append, args := #[s, x], argTypes := #[37, 37] })
    (base : Nat) (v : Value) (Y : List RL.R) (hs0 : a.eval s = v) (hown : OwnJ w base v Y)
    (A : Option Addr) (C : Nat) (Z : List RL.R) (hx : a.eval x = .slice A Z.length C) (hZ : SlRsP (fun b => base ≤ b ∧ v.ownBlock ≠ some b) w.heap.size w A Z)
    (hn : (Y.length + Z.length) * 24 ≤ 140737488355328) (hbase : base ≤ w.heap.size)
    (h : ∀ v' w', OwnJ w' base v' (Y ++ Z) → w.grownBy w' v.ownBlock → wpList Try.prog ops Q rest (a.put o.dst v') w') : wpList Try.prog ops Q (o :: rest) a w := by
  obtain ⟨i0, hi0, hz0, hz1, hz2⟩ := info_parts r7rowInfo
  obtain ⟨hs, h1, h2⟩ := hown
  obtain ⟨ns, hH, hcell, hnone⟩ := hZ.hdrs
  refine wpList_plain hgd fun K hK => ?_
  rcases A with _ | ad
  · have hy := hnone rfl
    subst hy
    have hrun := run_append_none (P := Try.prog) w base 37 o.type 56 i0 1 Try.underlying37 hi0 v Y.length hs h1 C
    unfold Oper.wp execOp
    simp only [List.length_nil] at hx
    simp only [ho, resolve, invoke, builtin, Sem.run_bind, Sem.run_pure, Result.andThen_ok, List.map_toArray, List.map_cons, List.map_nil, hs0, hx, hrun]
    exact hK _ _ (h v w (by rw [List.append_nil]; exact ⟨hs, h1, h2⟩) ⟨rfl, rfl, rfl, Nat.le_refl _, fun _ _ _ => rfl⟩)
  · obtain ⟨v', w', hrun, k2, k3, _, k5⟩ := run_append_own_at (P := Try.prog) w base 37 o.type 56 i0 _ 1 24 Try.underlying37 hi0 hz0 hz1 hz2 rfl (by decide) v Y.length hs h1 ad Z.length C ns (by have := hH.1; omega) (hcell ad rfl) hH.cells (by simp only [maxLen]; omega) (by omega) hbase
    unfold Oper.wp execOp
    simp only [ho, resolve, invoke, builtin, Sem.run_bind, Sem.run_pure, Result.andThen_ok, List.map_toArray, List.map_cons, List.map_nil, hs0, hx, hrun]
    refine hK _ _ (h v' w' ⟨hs ++ ns, by rw [List.length_append]; exact k2, ?_⟩ k3)
    refine (((h2.append hH).keep fun p hp hP => grown_cell k3 hp (fun e => hP.2 e.symm)).weak fun b hb hP => ⟨hP.1, ?_⟩).more k3.size
    rcases k5 with k5 | k5
    · rw [k5]; exact hP.2
    · rw [k5]
      intro e
      injection e with e
      omega

theorem boxJ0 {w : World} {A : Option Addr} {x : RL.R} {C : Nat} {T : TypeId} {P : Nat → Prop} (hs : SlR w.heap.size w A x) (hc : x.length ≤ C) (hm : C ≤ 9223372036854775807) (hP : x ≠ [] → ∀ ad, A = some ad → P ad.block) (hb : P w.heap.size) :
    SlRsP P (w.alloc (.cells #[.slice A x.length C] T)).heap.size (w.alloc (.cells #[.slice A x.length C] T)) (some ⟨w.heap.size, 0, none⟩) [x] := fun _ => by
  have hr := Row.new w T [.slice A x.length C]
  refine ⟨w.heap.size, 0, rfl, hr.lt, hb, [.slice A x.length C], Hdrs.one ⟨A, C, rfl, hc, hm, hs.alloc1 _, hP⟩, fun i u hu => ?_⟩
  rw [Nat.zero_add]
  exact (hr.cell i).trans hu
set_option maxRecDepth 4000 in
/-- append(next, src...): a whole row of the reference's values. -/
theorem appRWs {w : World} {ops : Array Oper} {rest : List Oper} {o : Oper} {a : Act} {Q : Exit → Act → World → Prop} (hgd : o.guard = none) (s x : Operand)
    (ho : o.op = .call { callee := .builtin .append, args := #[s, x], argTypes := #[56, 56] })
    (base : Nat) (v : Value) (l : RL.R) (hs0 : a.eval s = v) (hown : w.ownsRow base 85 3 v l.length (rcells l))
    (A : Option Addr) (C : Nat) (z : RL.R) (hx : a.eval x = .slice A z.length C) (hz : SlR w.heap.size w A z)
    (hn : l.length + z.length ≤ 1000000) (hbase : base ≤ w.heap.size)
    (h : ∀ v' w', w'.ownsRow base 85 3 v' (l ++ z).length (rcells (l ++ z)) → w.grownBy w' v.ownBlock → wpList Try.prog ops Q rest (a.put o.dst v') w') : wpList Try.prog ops Q (o :: rest) a w := by
  obtain ⟨i0, hi0, hz0, hz1, hz2⟩ := info_parts r1Info
  have hcell : ∀ ad, A = some ad → ∀ j u, (rcells z)[j]? = some u → w.cell? (ad.add j) = some u := fun ad e j u hu => by
    obtain ⟨b, o, e', hb, hc⟩ := hz (by intro h0; rw [h0] at hu; simp at hu)
    rw [e] at e'
    injection e' with e'
    subst e'
    rw [Addr.add_lit]
    exact hc j u hu
  refine wpList_plain hgd fun K hK => ?_
  rcases A with _ | ad
  · have hy : z = [] := by
      refine Classical.byContradiction fun hne => ?_
      obtain ⟨b, o, e', hb, hc⟩ := hz (ne_rcells hne)
      cases e'
    subst hy
    have hrun := run_append_none (P := Try.prog) w base 56 o.type 85 i0 3 Try.underlying56 hi0 v l.length (rcells l) hown C
    unfold Oper.wp execOp
    simp only [List.length_nil] at hx
    simp only [ho, resolve, invoke, builtin, Sem.run_bind, Sem.run_pure, Result.andThen_ok, List.map_toArray, List.map_cons, List.map_nil, hs0, hx, hrun]
    exact hK _ _ (h v w (by rw [List.append_nil]; exact hown) ⟨rfl, rfl, rfl, Nat.le_refl _, fun _ _ _ => rfl⟩)
  · obtain ⟨v', w', hrun, k2, k3, _, k5⟩ := run_append_own_at (P := Try.prog) w base 56 o.type 85 i0 _ 3 32 Try.underlying56 hi0 hz0 hz1 hz2 rfl (by decide) v l.length (rcells l) hown ad z.length C (rcells z) (rcells_length z) (hcell ad rfl) (rcells_one z) (by simp only [maxLen]; omega) (by omega) hbase
    unfold Oper.wp execOp
    simp only [ho, resolve, invoke, builtin, Sem.run_bind, Sem.run_pure, Result.andThen_ok, List.map_toArray, List.map_cons, List.map_nil, hs0, hx, hrun]
    exact hK _ _ (h v' w' (by rw [List.length_append, rcells_append]; exact k2) k3)

theorem valsF_ok {X : List RA} (hok : ∀ a ∈ X, RefOk a) (v : Int) : StrOk (valsF X v) := fun c hc => by
  unfold valsF at hc
  split at hc
  · rename_i a k hcol
    have ha : a ∈ X := by
      unfold colF at hcol
      obtain ⟨a', ha', h1⟩ := List.exists_of_findSome?_eq_some hcol
      obtain ⟨k', _, e⟩ := Option.map_eq_some_iff.1 h1
      injection e with e1 _
      rw [← e1]; exact ha'
    obtain ⟨r, hr, rfl⟩ := List.mem_map.1 hc
    obtain ⟨y, hy, rfl⟩ := List.mem_map.1 ((RL.mem_ofF _ _).1 hr)
    show (y.getD (k : Int).toNat zV).str.size ≤ _
    rw [Int.toNat_natCast, List.getD_eq_getElem?_getD]
    cases h : y[k]? with
    | none => exact Nat.zero_le _
    | some u => exact ((hok a ha).ok y hy).2 u (List.mem_of_getElem? h)
  · simp at hc
theorem ROk.snoc {x : RL.R} (h : ROk x) {c : RL.V} (hc : c.str.size ≤ 1000000000) (hl : x.length < 1000000) : ROk (x ++ [c]) := by
  refine ⟨by rw [List.length_append]; simp; omega, fun v hv => ?_⟩
  rcases List.mem_append.1 hv with hv | hv
  · exact h.2 v hv
  · simp at hv; subst hv; exact hc

theorem refJ_no {l : List At} {vals : Nat → RL.R} {x : RL.R} (h : ¬ preB l x) : ∀ m, refJ l vals m x = []
  | 0 => by unfold refJ; rw [if_neg h]
  | m + 1 => by unfold refJ; rw [if_neg h]
theorem refJ_yes {l : List At} {vals : Nat → RL.R} {x : RL.R} (h : preB l x) (m : Nat) : refJ l vals (m + 1) x = (vals x.length).flatMap fun c => refJ l vals m (x ++ [c]) := by
  rw [refJ, if_pos h]
/-- What the reference's Join leaves. -/
def RJPost (X : List RA) (m : Nat) (x : RL.R) (KA : Option Addr) (w : World) (e : Ending) (w' : World) : Prop :=
  (∃ A C, e = .returned (.slice A (refJ (X.map RA.at) (fun v => valsF X (v : Int)) m x).length C) ∧ (refJ (X.map RA.at) (fun v => valsF X (v : Int)) m x).length ≤ C ∧ C ≤ 9223372036854775807 ∧ SlRsP (fun b => w.heap.size ≤ b ∨ ∃ ad, KA = some ad ∧ ad.block = b) w'.heap.size w' A (refJ (X.map RA.at) (fun v => valsF X (v : Int)) m x)) ∧ Below w.heap.size w w'
theorem RJPost.nil {X : List RA} {m : Nat} {x : RL.R} {KA : Option Addr} {w w' : World} (h : ¬ preB (X.map RA.at) x) (hb : Below w.heap.size w w') : RJPost X m x KA w (.returned (.slice none 0 0)) w' := by
  unfold RJPost
  rw [refJ_no h]
  exact ⟨⟨none, 0, rfl, Nat.le_refl _, by omega, SlRsP.nil⟩, hb⟩

set_option maxHeartbeats 8000000 in
set_option maxRecDepth 100000 in
theorem r35Join_any (n AC : Nat) (AA : Option Addr) (X : List RA) (hn : n ≤ 8) (hXl : X.length ≤ 1000000) (hok : ∀ a ∈ X, RefOk a) (hat : ∀ a ∈ X, a.at.Ok n) (hM : ∀ v, (valsF X v).length ≤ 12) :
    ∀ (m : Nat) (x : RL.R) (KA : Option Addr) (KC : Nat) (w : World), x.length + m = n → ROk x → AtsR w.heap.size w AA X → SlR w.heap.size w KA x → x.length ≤ KC → KC ≤ 9223372036854775807 →
    Calls Try.prog 15 #[.int .i64 n, .slice KA x.length KC, .slice AA X.length AC] w (RJPost X m x KA w) := by
  have HOK := Lib.hid hok
  have HAT := Lib.hid hat
  have HM := Lib.hid hM
  clear hok hat hM
  intro m
  induction m with
  | zero =>
    intro x KA KC w hxm hxo hA hx hkc hkm
    have HXO := Lib.hid hxo
    have HA := Lib.hid hA
    have HX := Lib.hid hx
    have HXM := Lib.hid hxm
    have HKC := Lib.hid (And.intro hkc hkm)
    have hnb : ((x.length : Int) == (n : Int)) = true := by
      have : (x.length : Int) = (n : Int) := by omega
      simp [this]
    have hxl8 : x.length ≤ 8 := by omega
    clear hxo hA hx hxm hkc hkm
    go_enter Try.func15, Try.ntmps15
    go_wp2
    go_loopw [7] (fun c wr => ∃ i : Nat, i ≤ X.length ∧ c = .int .i64 i ∧ (∀ j (hj : j < X.length), j < i → allowsB X[j] x = true) ∧ Ext w wr) (fun c _ => X.length - (intOf c).toNat)
    case atStart => exact ⟨0, Nat.zero_le _, rfl, fun j _ h => absurd h (by omega), Ext.refl _⟩
    case round =>
      obtain ⟨i, hi, rfl, hall, hx1⟩ := hrel
      have HALL := Lib.hid hall
      have HX1 := Lib.hid hx1
      clear hall
      by_cases h1 : i < X.length
      · obtain ⟨ab, ao, VA, VC, PA, PC, rfl, hab, c0, c1, -, -, -, -, q5, q6⟩ := atsR_at HA.out h1
        have c0 := (hx1.cell (o := ao + i * 2) hab).trans c0
        have c1 := (hx1.cell (o := ao + i * 2 + 1) hab).trans c1
        have hab2 := Nat.lt_of_lt_of_le hab hx1.size
        have HRO := Lib.hid (HOK.out _ (List.getElem_mem h1))
        have HAL := Lib.hid (r35allows_any VA PA KA VC PC KC X[i] x wr ((q5.below hx1.below (Nat.le_refl _)).more hx1.size) (q6.up hx1) (HX.out.up hx1) HRO.out.len HRO.out.nn (Nat.le_trans HRO.out.vl (by decide)) (Nat.le_trans HRO.out.Pl (by decide)) (by omega) HRO.out.ok HXO.out)
        have hw1 : IntKind.i64.wrap ((i : Int) + 1) = ((i + 1 : Nat) : Int) := by rw [IntWalk.i64_in _ (by omega)]; omega
        have HPA : Hid (allowsB X[i] x = true ↔ preA X[i].at x) := allowsB_pre (HAT.out _ (List.getElem_mem h1)) HRO.out.nn x
        have HMX : Hid (X[i].at ∈ X.map RA.at) := List.mem_map.2 ⟨_, List.getElem_mem h1, rfl⟩
        clear q5 q6 hx1
        go_wp2_with fail
        refine HAL.out.mono ?_
        rintro e w1 ⟨rfl, hx2⟩
        have HX2 := Lib.hid (HX1.out.trans hx2)
        clear hx2 HAL
        cases hal : allowsB X[i] x
        · have HF : Hid (¬ preB (X.map RA.at) x) := fun hp => by
            have := HPA.out.2 (hp _ HMX.out)
            rw [hal] at this
            cases this
          clear hal HPA HMX
          go_wp2
          go_ret
          exact RJPost.nil HF.out HX2.out.below
        · have HAL : Hid (allowsB X[i] x = true) := hal
          clear hal HPA HMX
          go_wp2
          go_roundw
          case rel =>
            refine ⟨i + 1, h1, by go_num, fun j hj hlt => ?_, HX2.out⟩
            rcases Nat.lt_or_ge j i with h | h
            · exact HALL.out j hj h
            · have : j = i := by omega
              subst this
              exact HAL.out
          case measure => simp [intOf]; omega
      · have HPRE : Hid (preB (X.map RA.at) x) := fun a ha => by
          obtain ⟨r, hr, rfl⟩ := List.mem_map.1 ha
          obtain ⟨j, hj, rfl⟩ := List.getElem_of_mem hr
          exact (allowsB_pre (HAT.out _ hr) (HOK.out _ hr).nn x).1 (HALL.out j hj (by omega))
        have HRJ : Hid (refJ (X.map RA.at) (fun v => valsF X (v : Int)) 0 x = [x]) := by
          show _ = _
          rw [refJ, if_pos HPRE.out]
        have HS9 : Hid (SlRsP (fun b => w.heap.size ≤ b ∨ ∃ ad, KA = some ad ∧ ad.block = b) (wr.alloc (.cells #[.slice KA x.length KC] 56)).heap.size (wr.alloc (.cells #[.slice KA x.length KC] 56)) (some ⟨wr.heap.size, 0, none⟩) [x]) :=
          boxJ0 (HX.out.up HX1.out) HKC.out.1 HKC.out.2 (fun _ ad e => .inr ⟨ad, e, rfl⟩) (.inl HX1.out.size)
        go_wp2
        go_ret
        refine ⟨?_, (HX1.out.alloc _).below⟩
        rw [HRJ.out]
        exact ⟨_, 1, rfl, Nat.le_refl _, by omega, HS9.out⟩
  | succ m ih =>
    intro x KA KC w hxm hxo hA hx hkc hkm
    have IH := Lib.hid ih
    have HXO := Lib.hid hxo
    have HA := Lib.hid hA
    have HX := Lib.hid hx
    have HXM := Lib.hid hxm
    have hxn : x.length < n := by omega
    clear ih hxo hA hx hxm hkc hkm
    go_enter Try.func15, Try.ntmps15
    go_wp2
    go_loopw [7] (fun c wr => ∃ i : Nat, i ≤ X.length ∧ c = .int .i64 i ∧ (∀ j (hj : j < X.length), j < i → allowsB X[j] x = true) ∧ Ext w wr) (fun c _ => X.length - (intOf c).toNat)
    case atStart => exact ⟨0, Nat.zero_le _, rfl, fun j _ h => absurd h (by omega), Ext.refl _⟩
    case round =>
      obtain ⟨i, hi, rfl, hall, hx1⟩ := hrel
      have HALL := Lib.hid hall
      have HX1 := Lib.hid hx1
      clear hall
      by_cases h1 : i < X.length
      · obtain ⟨ab, ao, VA, VC, PA, PC, rfl, hab, c0, c1, -, -, -, -, q5, q6⟩ := atsR_at HA.out h1
        have c0 := (hx1.cell (o := ao + i * 2) hab).trans c0
        have c1 := (hx1.cell (o := ao + i * 2 + 1) hab).trans c1
        have hab2 := Nat.lt_of_lt_of_le hab hx1.size
        have HRO := Lib.hid (HOK.out _ (List.getElem_mem h1))
        have HAL := Lib.hid (r35allows_any VA PA KA VC PC KC X[i] x wr ((q5.below hx1.below (Nat.le_refl _)).more hx1.size) (q6.up hx1) (HX.out.up hx1) HRO.out.len HRO.out.nn (Nat.le_trans HRO.out.vl (by decide)) (Nat.le_trans HRO.out.Pl (by decide)) (by omega) HRO.out.ok HXO.out)
        have hw1 : IntKind.i64.wrap ((i : Int) + 1) = ((i + 1 : Nat) : Int) := by rw [IntWalk.i64_in _ (by omega)]; omega
        have HPA : Hid (allowsB X[i] x = true ↔ preA X[i].at x) := allowsB_pre (HAT.out _ (List.getElem_mem h1)) HRO.out.nn x
        have HMX : Hid (X[i].at ∈ X.map RA.at) := List.mem_map.2 ⟨_, List.getElem_mem h1, rfl⟩
        clear q5 q6 hx1
        go_wp2_with fail
        refine HAL.out.mono ?_
        rintro e w1 ⟨rfl, hx2⟩
        have HX2 := Lib.hid (HX1.out.trans hx2)
        clear hx2 HAL
        cases hal : allowsB X[i] x
        · have HF : Hid (¬ preB (X.map RA.at) x) := fun hp => by
            have := HPA.out.2 (hp _ HMX.out)
            rw [hal] at this
            cases this
          clear hal HPA HMX
          go_wp2
          go_ret
          exact RJPost.nil HF.out HX2.out.below
        · have HAL : Hid (allowsB X[i] x = true) := hal
          clear hal HPA HMX
          go_wp2
          go_roundw
          case rel =>
            refine ⟨i + 1, h1, by go_num, fun j hj hlt => ?_, HX2.out⟩
            rcases Nat.lt_or_ge j i with h | h
            · exact HALL.out j hj h
            · have : j = i := by omega
              subst this
              exact HAL.out
          case measure => simp [intOf]; omega
      · have HPRE : Hid (preB (X.map RA.at) x) := fun a ha => by
          obtain ⟨r, hr, rfl⟩ := List.mem_map.1 ha
          obtain ⟨j, hj, rfl⟩ := List.getElem_of_mem hr
          exact (allowsB_pre (HAT.out _ hr) (HOK.out _ hr).nn x).1 (HALL.out j hj (by omega))
        have hnb : ((x.length : Int) == (n : Int)) = false := by
          have : (x.length : Int) ≠ (n : Int) := by omega
          simpa using this
        have HV := Lib.hid (r35values_any AA AC X (x.length : Int) wr ((HA.out.upB HX1.out.below)) hXl HOK.out)
        have HRJ : Hid (refJ (X.map RA.at) (fun v => valsF X (v : Int)) (m + 1) x = (valsF X (x.length : Int)).flatMap fun c => refJ (X.map RA.at) (fun v => valsF X (v : Int)) m (x ++ [c])) := by
          exact refJ_yes HPRE.out m
        have HVO := Lib.hid (valsF_ok HOK.out (x.length : Int))
        have hvl := HM.out (x.length : Int)
        have HLEN : Hid (∀ c, (refJ (X.map RA.at) (fun v => valsF X (v : Int)) m (x ++ [c])).length ≤ 429981696) := fun c => by
          refine Nat.le_trans (refJ_len (M := 12) (fun v => HM.out v) (by omega) m _) (Nat.le_trans (Nat.pow_le_pow_right (by omega) (by have := HXM.out; omega : m ≤ 8)) (by decide))
        clear HALL hx1
        obtain ⟨F, hF⟩ : ∃ F : RL.V → List RL.R, F = fun c => refJ (X.map RA.at) (fun v => valsF X (v : Int)) m (x ++ [c]) := ⟨_, rfl⟩
        have HFF := Lib.hid hF
        have HRJ2 := Lib.hid (HRJ.out.trans (by rw [← hF]))
        have HLEN2 : Hid (∀ c, (F c).length ≤ 429981696) := fun c => by rw [HFF.out]; exact HLEN.out c
        clear hF HRJ HLEN
        generalize hvs : valsF X (x.length : Int) = vals at HV HRJ2 HVO hvl
        clear hvs
        go_wp2_with fail
        refine HV.out.mono ?_
        rintro e w1 ⟨u, rfl, hown, hb⟩
        obtain ⟨-, UA, UC, rfl, -, -, hus, -⟩ := SlR.of_own hown
        have HUS := Lib.hid hus
        have HB1 := Lib.hid (Below.then HX1.out.below hb HX1.out.size)
        clear hown hb hus HV
        go_wp2
        go_loopw [8, 10] (fun o c wx => ∃ k : Nat, k ≤ vals.length ∧ c = .int .i64 k ∧ OwnJ wx w1.heap.size o ((vals.take k).flatMap F) ∧ Below w1.heap.size w1 wx) (fun _ c _ => vals.length - (intOf c).toNat)
        case atStart => exact ⟨0, Nat.zero_le _, rfl, OwnJ.nil _ _, Below.refl _ _⟩
        case round =>
          obtain ⟨k, hk, rfl, hown, hb⟩ := hrel
          have HO := Lib.hid hown
          have HBK := Lib.hid hb
          have hzk := hb.size
          clear hown hb
          by_cases h2 : k < vals.length
          · obtain ⟨ub, uo, rfl, hub, r0, r1, r2⟩ := slR_at HUS.out h2
            have r0 := (HBK.out.cell (p := ⟨ub, uo + k * 3, none⟩) hub).trans r0
            have r1 := (HBK.out.cell (p := ⟨ub, uo + k * 3 + 1, none⟩) hub).trans r1
            have r2 := (HBK.out.cell (p := ⟨ub, uo + k * 3 + 2, none⟩) hub).trans r2
            have hub2 := Nat.lt_of_lt_of_le hub hzk
            have HT := Lib.hid (flat_take F vals h2)
            have HZO := Lib.hid (HVO.out _ (List.getElem_mem h2))
            have HWK := Lib.hid (Below.then HB1.out HBK.out HB1.out.size)
            have HXW := Lib.hid (HX.out.upB HWK.out)
            have HLT : Hid (((vals.take k).flatMap F).length ≤ 12 * 429981696) := by
              refine Nat.le_trans (flat_len F _ HLEN2.out _) (Nat.mul_le_mul_right _ ?_)
              rw [List.length_take]; omega
            generalize vals[k] = z at *
            have hw1 : IntKind.i64.wrap ((k : Int) + 1) = ((k + 1 : Nat) : Int) := by rw [IntWalk.i64_in _ (by omega)]; omega
            go_wp2_with (first
              | (at_builtin; refine appRWs rfl (.tmp 41) (.tmp 42) rfl wr.heap.size (.slice none 0 0) [] rfl (own_nil _ _ _ _) KA KC x rfl HXW.out (by simp; omega) (Nat.le_refl _) ?_
                 intro v2 w2 hown2 hg2
                 rw [List.nil_append] at hown2
                 obtain ⟨-, A2, C2, rfl, -, -, -, -⟩ := SlR.of_own hown2
                 have HO2 := Lib.hid hown2
                 have HB2 := Lib.hid (app_grown (B := wr.heap.size) hg2 (fun k hk => by simp [Value.ownBlock] at hk) (Nat.le_refl _))
                 have r0 := (HB2.out.cell (p := ⟨ub, uo + k * 3, none⟩) hub2).trans r0
                 have r1 := (HB2.out.cell (p := ⟨ub, uo + k * 3 + 1, none⟩) hub2).trans r1
                 have r2 := (HB2.out.cell (p := ⟨ub, uo + k * 3 + 2, none⟩) hub2).trans r2
                 have hub3 := Nat.lt_of_lt_of_le hub2 HB2.out.size
                 have hz2 := HB2.out.size
                 clear hown2 hg2)
              | (at_builtin; refine app1W rfl (.tmp 46) (.tmp 51) rfl wr.heap.size (.slice A2 x.length C2) x rfl (HO2.out.alloc _) w2.heap.size z rfl ((Row.new w2 85 (vcells z)).cell 0) ((Row.new w2 85 (vcells z)).cell 1) ((Row.new w2 85 (vcells z)).cell 2) (by omega) (by simp; omega) ?_
                 intro v3 w3 hown3 hg3
                 obtain ⟨-, A3, C3, rfl, hc3, hm3, hs3, hf3⟩ := SlR.of_own hown3
                 have HB3 := Lib.hid (Below.then HB2.out (app_kept (B := wr.heap.size) (fun k hk => own_base HO2.out hk) hz2 hg3) (Nat.le_refl _))
                 have hj := (IH.out (x ++ [z]) A3 C3 w3 (by rw [List.length_append, List.length_singleton]; have := HXM.out; omega) (HXO.out.snoc HZO.out (by omega)) (HA.out.upB (Below.then HWK.out HB3.out HWK.out.size)) hs3 hc3 hm3)
                 rw [List.length_append, List.length_singleton] at hj
                 have HJ := Lib.hid hj
                 have HF3 := Lib.hid hf3
                 have hz3 := HB3.out.size
                 clear hown3 hg3 hs3 hc3 hm3 hf3 hj))
            refine HJ.out.mono ?_
            rintro e w4 ⟨⟨A4, C4, rfl, hc4, hm4, hs4⟩, hb4⟩
            have HS4 : Hid (SlRsP (fun b => w1.heap.size ≤ b ∧ u8.ownBlock ≠ some b) w4.heap.size w4 A4 (F z)) := by
              rw [HFF.out]
              refine hs4.weak fun b _ hb => ?_
              have hge : wr.heap.size ≤ b := by
                rcases hb with h | ⟨ad, e, rfl⟩
                · omega
                · exact HF3.out ad e
              exact ⟨by omega, fun e => by have := HO.out.lt b e; omega⟩
            have HFZ : Hid ((refJ (X.map RA.at) (fun v => valsF X (v : Int)) m (x ++ [z])).length = (F z).length) := by show _ = _; rw [HFF.out]
            rw [HFZ.out]
            have HB4 := Lib.hid (Below.then HB3.out hb4 hz3)
            have HO4 := Lib.hid (HO.out.up HB4.out)
            have hz4 := HB4.out.size
            clear hc4 hm4 hs4 hb4 HJ
            go_wp2_with
              (at_builtin; refine appJ rfl (.tmp 44) (.tmp 54) rfl w1.heap.size u8 ((vals.take k).flatMap F) rfl HO4.out A4 C4 (F z) rfl HS4.out (by have := HLT.out; have := HLEN2.out z; omega) (by omega) ?_
               intro v5 w5 hown5 hg5
               have HO5 := Lib.hid hown5
               have HB5 := Lib.hid (Below.then (Below.then HBK.out HB4.out hzk) (app_grown (B := w1.heap.size) hg5 HO4.out.base (by omega)) (Nat.le_refl _))
               clear hown5 hg5)
            go_roundw
            case rel => exact ⟨k + 1, h2, by go_num, by rw [HT.out]; exact HO5.out, HB5.out⟩
            case measure => simp [intOf]; omega
          · have HT := Lib.hid (List.take_of_length_le (show vals.length ≤ k by omega))
            rw [HT.out] at HO
            obtain ⟨A9, C9, h9, h10, h11, h12⟩ := HO.out.sl (P := fun b => w.heap.size ≤ b ∨ ∃ ad, KA = some ad ∧ ad.block = b) (fun b hb => .inl (by have := HB1.out.size; omega))
            have HFIN := Lib.hid (And.intro h10 (And.intro h11 h12))
            subst h9
            clear h10 h11 h12 HO
            go_wp2
            go_ret
            refine ⟨?_, Below.then HB1.out HBK.out HB1.out.size⟩
            rw [HRJ2.out]
            exact ⟨A9, C9, rfl, HFIN.out.1, HFIN.out.2.1, HFIN.out.2.2⟩

end Go.Proofs.Ytiomelogggilgaa
end

section
/- Append of one element to a list that is nearly as long as memory; what stays readable while boxes turn. -/
namespace Go.Proofs.Ytiomelogggilgaa
open Go.RowKit Go.Sort

theorem next_le (n : Nat) : Builtin.nextslicecap (n + 1) n ≤ n + n / 4 + 1000 := by
  unfold Builtin.nextslicecap
  split
  · omega
  · split
    · omega
    · unfold Builtin.growBy
      rw [if_neg (by omega)]
      unfold Builtin.growBy
      rw [if_pos (by omega)]
      omega
theorem next_fit {n bytes : Nat} (h : (n + n / 4 + 1000) * bytes ≤ 281474976710656) : Builtin.nextslicecap (n + 1) n * bytes ≤ 281474976710656 :=
  Nat.le_trans (Nat.mul_le_mul_right _ (next_le n)) h

section
variable {P : Program} {w : World}
/-- One element more on a list of the call's own. -/
theorem run_app1 (base : Nat) (t ty e : TypeId) (i : TypeInfo) (z : Value) (size bytes : Nat) (ht : P.underlying t = some (.slice e)) (hi : P.info? e = some i) (hz : i.zero = some z)
    (hsize : i.size = size) (hby : i.bytes = bytes) (hzs : z.cells.size = size)
    (v : Value) (n : Nat) (xs : List Value) (hown : w.ownsRow base e size v n xs)
    (a : Addr) (c : Nat) (u : List Value) (hl : u.length = size) (hu : ∀ j x, u[j]? = some x → w.cell? (a.add j) = some x) (h1 : ∀ x ∈ u, x.oneCell' = true)
    (h63 : n + 1 ≤ maxLen) (hfit : (n + n / 4 + 1000) * bytes ≤ 281474976710656) (hbase : base ≤ w.heap.size) :
    ∃ v' w', (Builtin.append_ #[t, t] ty #[v, .slice (some a) 1 c]).run P w = .ok v' w' ∧ w'.ownsRow base e size v' (n + 1) (xs ++ u) ∧ w.grownBy w' v.ownBlock ∧ (∀ b, v'.ownBlock = some b → v.ownBlock = some b ∨ b = w.heap.size) := by
  subst hsize hby
  have hm : n + 1 ≤ 9223372036854775807 := by simp only [maxLen] at h63; omega
  have hl1 : u.length = 1 * i.size := by rw [hl, Nat.one_mul]
  have hb1 : 1 * i.bytes ≤ 281474976710656 := Nat.le_trans (Nat.mul_le_mul_right _ (by omega)) hfit
  have hxl : (xs ++ u).length = (n + 1) * i.size := by rw [List.length_append, hown.1, hl1, Nat.add_mul]
  have fresh : ∀ old, ∃ v' w', (Value.slice (some ⟨w.heap.size, 0, none⟩) (n + 1) (grownCap w (n + 1) old e) = v' ∧ w.drew.alloc (.cells (xs.toArray ++ u.toArray ++ Builtin.zeroCells z.cells (grownCap w (n + 1) old e - (n + 1))) e) = w') ∧ w'.ownsRow base e i.size v' (n + 1) (xs ++ u) ∧ (∀ row, w.grownBy w' row) ∧ v'.ownBlock = some w.heap.size := by
    intro old
    have hge := grownCap_ge w (n + 1) old e
    refine ⟨_, _, ⟨rfl, rfl⟩, ⟨hxl, .inr ⟨w.heap.size, grownCap w (n + 1) old e, _, rfl, hbase, heap_alloc_new w.drew _, hge, grownCap_le_maxLen w (n + 1) old e h63, ?_, ?_⟩⟩, fun row => ⟨rfl, rfl, rfl, by simp, fun k hk _ => heap_alloc_old _ _ hk⟩, rfl⟩
    · simp only [Array.size_append, List.size_toArray, size_zeroCells, hzs, hown.1, hl1, ← Nat.add_mul]
      rw [show n + 1 + (grownCap w (n + 1) old e - (n + 1)) = grownCap w (n + 1) old e by omega]
    · simp only [Array.toList_append, List.append_assoc]
      rw [← List.append_assoc, ← hxl]
      exact List.take_left
  rcases hown.2 with ⟨rfl, rfl⟩ | ⟨g, cap, cur, rfl, hbg, hg, hnc, hcm, hcs, htake⟩
  · obtain rfl : xs = [] := List.eq_nil_of_length_eq_zero (by simpa using hown.1)
    have hr := run_append_nil (P := P) w t ty e i z ht hi hz a 1 c u hl1 hu (by omega) (by omega) hb1
    obtain ⟨v', w', ⟨rfl, rfl⟩, h2, h3, h4⟩ := fresh 0
    refine ⟨_, _, ?_, h2, h3 _, fun b hb => .inr (by rw [h4] at hb; injection hb with hb; exact hb.symm)⟩
    rw [hr]
    simp
  · by_cases hroom : n + 1 ≤ cap
    · have hfit2 : n * i.size + u.length ≤ cur.size := by rw [hl1, hcs, ← Nat.add_mul]; exact Nat.mul_le_mul_right _ hroom
      refine ⟨_, _, run_append_room (P := P) w t ty e i ht hi g n cap cur hg a 1 c u hl1 hu h1 hroom hfit2, ⟨hxl, .inr ⟨g, cap, _, rfl, hbg, setRow_heap w g cur _ e _ hg, hroom, hcm, ?_, ?_⟩⟩, ⟨rfl, rfl, rfl, by simp, fun k _ hk => setRow_other w g k _ (fun e => hk (by simp [Value.ownBlock, e]))⟩, fun b hb => .inl hb⟩
      · simp only [List.size_toArray, List.length_append, List.length_take, List.length_drop, Array.length_toList]
        omega
      · rw [htake, ← hxl]
        exact List.take_left
    · obtain rfl : cap = n := by omega
      have hr := run_append_grow (P := P) w t ty e i z ht hi hz ⟨g, 0, none⟩ cap cap xs hown.1 (hown.cells (g := g) rfl) a 1 c u hl1 hu (by omega) (by omega) (next_fit hfit)
      obtain ⟨v', w', ⟨rfl, rfl⟩, h2, h3, h4⟩ := fresh cap
      exact ⟨_, _, hr, h2, h3 _, fun b hb => .inr (by rw [h4] at hb; injection hb with hb; exact hb.symm)⟩
end

theorem atomInfo : (Try.prog.info? 52).map (fun i => (i.zero, i.size, i.bytes)) = some (some (.agg #[.slice none 0 0, .int .i64 0, .slice none 0 0]), 3, 56) := by kernel_rfl
theorem ratomInfo : (Try.prog.info? 79).map (fun i => (i.zero, i.size, i.bytes)) = some (some (.agg #[.slice none 0 0, .slice none 0 0]), 2, 48) := by kernel_rfl

theorem run1LA {w : World} (ty : TypeId) (base : Nat) (v : Value) (n : Nat) (xs : List Value) (hown : w.ownsRow base 52 3 v n xs)
    (a : Addr) (c : Nat) (u : List Value) (hl : u.length = 3) (hu : ∀ j x, u[j]? = some x → w.cell? (a.add j) = some x) (h1 : ∀ x ∈ u, x.oneCell' = true) (hn : n ≤ 3600000000000) (hbase : base ≤ w.heap.size) :
    ∃ v' w', (Builtin.append_ #[23, 23] ty #[v, .slice (some a) 1 c]).run Try.prog w = .ok v' w' ∧ w'.ownsRow base 52 3 v' (n + 1) (xs ++ u) ∧ w.grownBy w' v.ownBlock ∧ (∀ b, v'.ownBlock = some b → v.ownBlock = some b ∨ b = w.heap.size) := by
  obtain ⟨i0, hi0, hz0, hz1, hz2⟩ := info_parts atomInfo
  exact run_app1 (P := Try.prog) base 23 ty 52 i0 _ 3 56 Try.underlying23 hi0 hz0 hz1 hz2 rfl v n xs hown a c u hl hu h1 (by simp only [maxLen]; omega) (by omega) hbase
/-- append of one element. -/
theorem app1LA {w : World} {ops : Array Oper} {rest : List Oper} {o : Oper} {a : Act} {Q : Exit → Act → World → Prop} (hgd : o.guard = none) (s x : Operand)
    (ho : o.op = .call { callee := .builtin .append, args := #[s, x], argTypes := #[23, 23] })
    (base : Nat) (v : Value) (n : Nat) (xs : List Value) (hs : a.eval s = v) (hown : w.ownsRow base 52 3 v n xs)
    (g : Nat) (u : List Value) (hx : a.eval x = .slice (some ⟨g, 0, none⟩) 1 1) (hg : Row w g 52 u) (hl : u.length = 3) (h1 : ∀ x ∈ u, x.oneCell' = true)
    (hn : n ≤ 3600000000000) (hbase : base ≤ w.heap.size)
    (h : ∀ v' w', w'.ownsRow base 52 3 v' (n + 1) (xs ++ u) → w.grownBy w' v.ownBlock → (∀ b, v'.ownBlock = some b → v.ownBlock = some b ∨ b = w.heap.size) → wpList Try.prog ops Q rest (a.put o.dst v') w') : wpList Try.prog ops Q (o :: rest) a w := by
  refine wpList_plain hgd fun K hK => ?_
  obtain ⟨v', w', hrun, k2, k3, k4⟩ := run1LA o.type base v n xs hown ⟨g, 0, none⟩ 1 u hl (fun j x hj => by
    have := hg.cell j
    rw [hj] at this
    rw [Addr.add_lit, Nat.zero_add]
    exact this) h1 hn hbase
  unfold Oper.wp execOp
  simp only [ho, resolve, invoke, builtin, Sem.run_bind, Sem.run_pure, Result.andThen_ok, List.map_toArray, List.map_cons, List.map_nil, hs, hx, hrun]
  exact hK _ _ (h v' w' k2 k3 k4)
/-- The same at a step of a drawn region. -/
theorem step1LA {w : World} {ops : Array Oper} {o : Oper} {a : Act} {K : Act → World → Prop} {Q : Exit → Act → World → Prop} {E : Prop} (hgd : o.guard = none) (s x : Operand)
    (ho : o.op = .call { callee := .builtin .append, args := #[s, x], argTypes := #[23, 23] })
    (base : Nat) (v : Value) (n : Nat) (xs : List Value) (hs : a.eval s = v) (hown : w.ownsRow base 52 3 v n xs)
    (g : Nat) (u : List Value) (hx : a.eval x = .slice (some ⟨g, 0, none⟩) 1 1) (hg : Row w g 52 u) (hl : u.length = 3) (h1 : ∀ x ∈ u, x.oneCell' = true)
    (hn : n ≤ 3600000000000) (hbase : base ≤ w.heap.size)
    (h : ∀ v' w', w'.ownsRow base 52 3 v' (n + 1) (xs ++ u) → w.grownBy w' v.ownBlock → (∀ b, v'.ownBlock = some b → v.ownBlock = some b ∨ b = w.heap.size) → K (a.put o.dst v') w') :
    if Region.wanted o (yielded ops a.tmps) = true then Oper.wp Try.prog o a w K Q else E := by
  obtain ⟨v', w', hrun, k2, k3, k4⟩ := run1LA o.type base v n xs hown ⟨g, 0, none⟩ 1 u hl (fun j x hj => by
    have := hg.cell j
    rw [hj] at this
    rw [Addr.add_lit, Nat.zero_add]
    exact this) h1 hn hbase
  have hw : Region.wanted o (yielded ops a.tmps) = true := by unfold Region.wanted; rw [hgd]
  rw [if_pos hw]
  unfold Oper.wp execOp
  simp only [ho, resolve, invoke, builtin, Sem.run_bind, Sem.run_pure, Result.andThen_ok, List.map_toArray, List.map_cons, List.map_nil, hs, hx, hrun]
  exact h v' w' k2 k3 k4
theorem run1RA {w : World} (ty : TypeId) (base : Nat) (v : Value) (n : Nat) (xs : List Value) (hown : w.ownsRow base 79 2 v n xs)
    (a : Addr) (c : Nat) (u : List Value) (hl : u.length = 2) (hu : ∀ j x, u[j]? = some x → w.cell? (a.add j) = some x) (h1 : ∀ x ∈ u, x.oneCell' = true) (hn : n ≤ 3600000000000) (hbase : base ≤ w.heap.size) :
    ∃ v' w', (Builtin.append_ #[24, 24] ty #[v, .slice (some a) 1 c]).run Try.prog w = .ok v' w' ∧ w'.ownsRow base 79 2 v' (n + 1) (xs ++ u) ∧ w.grownBy w' v.ownBlock ∧ (∀ b, v'.ownBlock = some b → v.ownBlock = some b ∨ b = w.heap.size) := by
  obtain ⟨i0, hi0, hz0, hz1, hz2⟩ := info_parts ratomInfo
  exact run_app1 (P := Try.prog) base 24 ty 79 i0 _ 2 48 Try.underlying24 hi0 hz0 hz1 hz2 rfl v n xs hown a c u hl hu h1 (by simp only [maxLen]; omega) (by omega) hbase
/-- append of one element. -/
theorem app1RA {w : World} {ops : Array Oper} {rest : List Oper} {o : Oper} {a : Act} {Q : Exit → Act → World → Prop} (hgd : o.guard = none) (s x : Operand)
    (ho : o.op = .call { callee := .builtin .append, args := #[s, x], argTypes := #[24, 24] })
    (base : Nat) (v : Value) (n : Nat) (xs : List Value) (hs : a.eval s = v) (hown : w.ownsRow base 79 2 v n xs)
    (g : Nat) (u : List Value) (hx : a.eval x = .slice (some ⟨g, 0, none⟩) 1 1) (hg : Row w g 79 u) (hl : u.length = 2) (h1 : ∀ x ∈ u, x.oneCell' = true)
    (hn : n ≤ 3600000000000) (hbase : base ≤ w.heap.size)
    (h : ∀ v' w', w'.ownsRow base 79 2 v' (n + 1) (xs ++ u) → w.grownBy w' v.ownBlock → (∀ b, v'.ownBlock = some b → v.ownBlock = some b ∨ b = w.heap.size) → wpList Try.prog ops Q rest (a.put o.dst v') w') : wpList Try.prog ops Q (o :: rest) a w := by
  refine wpList_plain hgd fun K hK => ?_
  obtain ⟨v', w', hrun, k2, k3, k4⟩ := run1RA o.type base v n xs hown ⟨g, 0, none⟩ 1 u hl (fun j x hj => by
    have := hg.cell j
    rw [hj] at this
    rw [Addr.add_lit, Nat.zero_add]
    exact this) h1 hn hbase
  unfold Oper.wp execOp
  simp only [ho, resolve, invoke, builtin, Sem.run_bind, Sem.run_pure, Result.andThen_ok, List.map_toArray, List.map_cons, List.map_nil, hs, hx, hrun]
  exact hK _ _ (h v' w' k2 k3 k4)
/-- The same at a step of a drawn region. -/
theorem step1RA {w : World} {ops : Array Oper} {o : Oper} {a : Act} {K : Act → World → Prop} {Q : Exit → Act → World → Prop} {E : Prop} (hgd : o.guard = none) (s x : Operand)
    (ho : o.op = .call { callee := .builtin .append, args := #[s, x], argTypes := #[24, 24] })
    (base : Nat) (v : Value) (n : Nat) (xs : List Value) (hs : a.eval s = v) (hown : w.ownsRow base 79 2 v n xs)
    (g : Nat) (u : List Value) (hx : a.eval x = .slice (some ⟨g, 0, none⟩) 1 1) (hg : Row w g 79 u) (hl : u.length = 2) (h1 : ∀ x ∈ u, x.oneCell' = true)
    (hn : n ≤ 3600000000000) (hbase : base ≤ w.heap.size)
    (h : ∀ v' w', w'.ownsRow base 79 2 v' (n + 1) (xs ++ u) → w.grownBy w' v.ownBlock → (∀ b, v'.ownBlock = some b → v.ownBlock = some b ∨ b = w.heap.size) → K (a.put o.dst v') w') :
    if Region.wanted o (yielded ops a.tmps) = true then Oper.wp Try.prog o a w K Q else E := by
  obtain ⟨v', w', hrun, k2, k3, k4⟩ := run1RA o.type base v n xs hown ⟨g, 0, none⟩ 1 u hl (fun j x hj => by
    have := hg.cell j
    rw [hj] at this
    rw [Addr.add_lit, Nat.zero_add]
    exact this) h1 hn hbase
  have hw : Region.wanted o (yielded ops a.tmps) = true := by unfold Region.wanted; rw [hgd]
  rw [if_pos hw]
  unfold Oper.wp execOp
  simp only [ho, resolve, invoke, builtin, Sem.run_bind, Sem.run_pure, Result.andThen_ok, List.map_toArray, List.map_cons, List.map_nil, hs, hx, hrun]
  exact h v' w' k2 k3 k4
theorem run1Int {w : World} (ty : TypeId) (base : Nat) (v : Value) (n : Nat) (xs : List Value) (hown : w.ownsRow base 3 1 v n xs)
    (a : Addr) (c : Nat) (u : List Value) (hl : u.length = 1) (hu : ∀ j x, u[j]? = some x → w.cell? (a.add j) = some x) (h1 : ∀ x ∈ u, x.oneCell' = true) (hn : n ≤ 3600000000000) (hbase : base ≤ w.heap.size) :
    ∃ v' w', (Builtin.append_ #[25, 25] ty #[v, .slice (some a) 1 c]).run Try.prog w = .ok v' w' ∧ w'.ownsRow base 3 1 v' (n + 1) (xs ++ u) ∧ w.grownBy w' v.ownBlock ∧ (∀ b, v'.ownBlock = some b → v.ownBlock = some b ∨ b = w.heap.size) := by
  obtain ⟨i0, hi0, hz0, hz1, hz2⟩ := info_parts intInfo
  exact run_app1 (P := Try.prog) base 25 ty 3 i0 _ 1 8 Try.underlying25 hi0 hz0 hz1 hz2 rfl v n xs hown a c u hl hu h1 (by simp only [maxLen]; omega) (by omega) hbase
/-- append of one element. -/
theorem app1Int {w : World} {ops : Array Oper} {rest : List Oper} {o : Oper} {a : Act} {Q : Exit → Act → World → Prop} (hgd : o.guard = none) (s x : Operand)
    (ho : o.op = .call { callee := .builtin .append, args := #[s, x], argTypes := #[25, 25] })
    (base : Nat) (v : Value) (n : Nat) (xs : List Value) (hs : a.eval s = v) (hown : w.ownsRow base 3 1 v n xs)
    (g : Nat) (u : List Value) (hx : a.eval x = .slice (some ⟨g, 0, none⟩) 1 1) (hg : Row w g 3 u) (hl : u.length = 1) (h1 : ∀ x ∈ u, x.oneCell' = true)
    (hn : n ≤ 3600000000000) (hbase : base ≤ w.heap.size)
    (h : ∀ v' w', w'.ownsRow base 3 1 v' (n + 1) (xs ++ u) → w.grownBy w' v.ownBlock → (∀ b, v'.ownBlock = some b → v.ownBlock = some b ∨ b = w.heap.size) → wpList Try.prog ops Q rest (a.put o.dst v') w') : wpList Try.prog ops Q (o :: rest) a w := by
  refine wpList_plain hgd fun K hK => ?_
  obtain ⟨v', w', hrun, k2, k3, k4⟩ := run1Int o.type base v n xs hown ⟨g, 0, none⟩ 1 u hl (fun j x hj => by
    have := hg.cell j
    rw [hj] at this
    rw [Addr.add_lit, Nat.zero_add]
    exact this) h1 hn hbase
  unfold Oper.wp execOp
  simp only [ho, resolve, invoke, builtin, Sem.run_bind, Sem.run_pure, Result.andThen_ok, List.map_toArray, List.map_cons, List.map_nil, hs, hx, hrun]
  exact hK _ _ (h v' w' k2 k3 k4)
/-- The same at a step of a drawn region. -/
theorem step1Int {w : World} {ops : Array Oper} {o : Oper} {a : Act} {K : Act → World → Prop} {Q : Exit → Act → World → Prop} {E : Prop} (hgd : o.guard = none) (s x : Operand)
    (ho : o.op = .call { callee := .builtin .append, args := #[s, x], argTypes := #[25, 25] })
    (base : Nat) (v : Value) (n : Nat) (xs : List Value) (hs : a.eval s = v) (hown : w.ownsRow base 3 1 v n xs)
    (g : Nat) (u : List Value) (hx : a.eval x = .slice (some ⟨g, 0, none⟩) 1 1) (hg : Row w g 3 u) (hl : u.length = 1) (h1 : ∀ x ∈ u, x.oneCell' = true)
    (hn : n ≤ 3600000000000) (hbase : base ≤ w.heap.size)
    (h : ∀ v' w', w'.ownsRow base 3 1 v' (n + 1) (xs ++ u) → w.grownBy w' v.ownBlock → (∀ b, v'.ownBlock = some b → v.ownBlock = some b ∨ b = w.heap.size) → K (a.put o.dst v') w') :
    if Region.wanted o (yielded ops a.tmps) = true then Oper.wp Try.prog o a w K Q else E := by
  obtain ⟨v', w', hrun, k2, k3, k4⟩ := run1Int o.type base v n xs hown ⟨g, 0, none⟩ 1 u hl (fun j x hj => by
    have := hg.cell j
    rw [hj] at this
    rw [Addr.add_lit, Nat.zero_add]
    exact this) h1 hn hbase
  have hw : Region.wanted o (yielded ops a.tmps) = true := by unfold Region.wanted; rw [hgd]
  rw [if_pos hw]
  unfold Oper.wp execOp
  simp only [ho, resolve, invoke, builtin, Sem.run_bind, Sem.run_pure, Result.andThen_ok, List.map_toArray, List.map_cons, List.map_nil, hs, hx, hrun]
  exact h v' w' k2 k3 k4

/-- S stays true while only blocks of F turn. -/
def Stab (F : Nat → Prop) (w : World) (S : World → Prop) : Prop := ∀ w'' : World, (∀ p : Addr, p.block < w.heap.size → ¬ F p.block → w''.cell? p = w.cell? p) → S w''
section
variable {F F' : Nat → Prop} {w w' : World} {S S' : World → Prop}
theorem Stab.now (h : Stab F w S) : S w := h w fun _ _ _ => rfl
theorem Stab.and (h : Stab F w S) (h' : Stab F w S') : Stab F w fun w'' => S w'' ∧ S' w'' := fun w'' hk => ⟨h w'' hk, h' w'' hk⟩
theorem Stab.imp (h : Stab F w S) (hS : ∀ w'', S w'' → S' w'') : Stab F w S' := fun w'' hk => hS _ (h w'' hk)
theorem Stab.step (h : Stab F w S) (hk : ∀ p : Addr, p.block < w.heap.size → ¬ F p.block → w'.cell? p = w.cell? p) (hz : w.heap.size ≤ w'.heap.size) (hF : ∀ b, b < w.heap.size → F' b → F b) : Stab F' w' S := fun w'' hk' =>
  h w'' fun p hp hn => (hk' p (Nat.lt_of_lt_of_le hp hz) fun hf => hn (hF _ hp hf)).trans (hk p hp hn)
theorem Stab.up (h : Stab F w S) (hb : Below w.heap.size w w') : Stab F w' S := h.step (fun _ hp _ => hb.cell hp) hb.size fun _ _ hf => hf
/-- A box of F grew. -/
theorem Stab.grow {row : Option Nat} (h : Stab F w S) (hg : w.grownBy w' row) (hr : ∀ b, row = some b → F b) (hF : ∀ b, b < w.heap.size → F' b → F b) : Stab F' w' S :=
  h.step (fun _p hp hn => grown_cell hg hp fun e => hn (hr _ e.symm)) hg.size hF
theorem Stab.of_from {lo : Nat} (hF : ∀ b, lo ≤ b → ¬ F b) (h : ∀ w'' : World, (∀ p : Addr, lo ≤ p.block → p.block < w.heap.size → w''.cell? p = w.cell? p) → S w'') : Stab F w S := fun w'' hk => h w'' fun p h1 h2 => hk p h2 (hF _ h1)
end

end Go.Proofs.Ytiomelogggilgaa
end

section
/- The laws' Rows, whose result lies in new memory; the plain atoms that chapter 35's laws make. -/
namespace Go.Proofs.Ytiomelogggilgaa
open Go.RowKit Go.Sort

set_option maxHeartbeats 4000000 in
set_option maxRecDepth 100000 in
theorem l7RowsJ_any (XA : Option Addr) (XC : Nat) (X : List RL.R) (w : World) (hX : SlRs w.heap.size w XA X) (hXl : X.length ≤ 1000000) (hXo : RsOk X) :
    Calls Try.prog 18 #[.slice XA X.length XC] w fun e w' => ∃ v, e = .returned v ∧ OwnJ w' w.heap.size v X ∧ Below w.heap.size w w' := by
  have HX := Lib.hid hX
  have HXO := Lib.hid hXo
  clear hX hXo
  go_enter Try.func18, Try.ntmps18
  go_wp2
  go_loopw [3, 8] (fun v i wr => ∃ k : Nat, k ≤ X.length ∧ i = .int .i64 k ∧ OwnJ wr w.heap.size v (X.take k) ∧ Below w.heap.size w wr) (fun _ i _ => X.length - (intOf i).toNat)
  case atStart => exact ⟨0, Nat.zero_le _, rfl, OwnJ.nil _ _, Below.refl _ _⟩
  case round =>
    obtain ⟨k, hka, rfl, hown, hbel⟩ := hrel
    have HO := Lib.hid hown
    have HB := Lib.hid hbel
    have hzz := hbel.size
    have hlt := List.length_take_le k X
    clear hown
    by_cases h1 : k < X.length
    · obtain ⟨b, o, A1, C1, rfl, hb, c1, -, -, s1⟩ := slRs_at HX.out h1
      have d1 := (hbel.cell (p := ⟨b, o + k, none⟩) hb).trans c1
      have HT := Lib.hid (List.take_succ_eq_append_getElem h1)
      have HC := Lib.hid (l7Row_any A1 C1 X[k] wr ((s1.below hbel (Nat.le_refl _)).more hzz) (HXO.out.at_ h1).1)
      clear c1 s1 hbel
      generalize X[k] = x at d1 HT HC
      go_wp2_with fail
      refine HC.out.mono ?_
      rintro e w1 ⟨v1, rfl, hown1, hb1⟩
      obtain ⟨-, A2, C2, rfl, hc2, hm2, hs2, hfr⟩ := SlR.of_own hown1
      have hz1 := hb1.size
      have HSRC := Lib.hid (boxJ0 (T := 56) (P := fun b => w.heap.size ≤ b ∧ u3.ownBlock ≠ some b) hs2 hc2 hm2 (fun _ ad e => ⟨Nat.le_trans hzz (hfr ad e), fun e2 => by have := HO.out.lt _ e2; have := hfr ad e; omega⟩) ⟨by omega, fun e2 => by have := HO.out.lt _ e2; omega⟩)
      have HO1 := Lib.hid ((HO.out.up hb1).up ((Below.refl _ _).alloc (Nat.le_refl _) (.cells #[.slice A2 x.length C2] 56)))
      have HB1 := Lib.hid ((Below.then HB.out hb1 hzz).alloc (by omega) (.cells #[.slice A2 x.length C2] 56))
      clear hown1 hb1 hs2 hfr d1 HC hc2 hm2
      go_wp2_with (at_builtin; refine appJ rfl (.tmp 12) (.tmp 15) rfl w.heap.size u3 (X.take k) rfl HO1.out (some ⟨w1.heap.size, 0, none⟩) 1 [x] rfl HSRC.out (by simp; omega) (by simp; omega) ?_
                   intro v' w2 hown2 hg2
                   have HO2 := Lib.hid hown2
                   have HB2 := Lib.hid (HB1.out.grown hg2 (by simp; omega) HO1.out.base)
                   clear hown2 hg2)
      go_roundw
      case rel => exact ⟨k + 1, by omega, by go_num, by rw [HT.out]; exact HO2.out, HB2.out⟩
      case measure => simp [intOf]; omega
    · have HT := Lib.hid (List.take_of_length_le (show X.length ≤ k by omega))
      rw [HT.out] at HO
      go_wp2
      go_ret
      exact ⟨_, rfl, HO.out, hbel⟩

/-- An atom of the laws: bits of variables, rows, what is bad. -/
structure LA where
  v : Nat
  R : List (List Nat)
  b : Nat
def varsK (v k : Nat) : List Nat := (List.range k).filter fun j => v / 2 ^ j % 2 == 1
theorem varsK_succ (v k : Nat) : varsK v (k + 1) = if v / 2 ^ k % 2 = 1 then varsK v k ++ [k] else varsK v k := by
  unfold varsK
  rw [List.range_succ, List.filter_append]
  by_cases h : v / 2 ^ k % 2 = 1
  · rw [if_pos h]; simp [h]
  · rw [if_neg h]; simp [h]
theorem varsK_len (v k : Nat) : (varsK v k).length ≤ k := by
  have := List.length_filter_le (fun j => v / 2 ^ j % 2 == 1) (List.range k)
  rw [List.length_range] at this
  exact this
def LA.ks (a : LA) : List Nat := varsK a.v 8
def LA.d (a : LA) : Nat := a.ks.length
def ints (l : List Nat) : List Int := l.map fun k : Nat => (k : Int)
def badV (b : Nat) (l : List Int) : List Int := if b = 0 then l else if b = 1 then l ++ [9] else if b = 2 then l ++ [0] else -1 :: l
def valI (x : Nat) : RL.V := ⟨1, (x % 4 : Nat), ⟨#[]⟩⟩
def rowI (d : Nat) (t : List Nat) : RL.R := (List.range d).map fun k => valI (t.getD k 0)
theorem rowI_len (d : Nat) (t : List Nat) : (rowI d t).length = d := by simp [rowI]
theorem rowI_succ (k : Nat) (t : List Nat) : rowI (k + 1) t = rowI k t ++ [valI (t.getD k 0)] := by unfold rowI; rw [List.range_succ, List.map_append]; rfl
def LA.rows (a : LA) : List RL.R := RL.ofF (a.R.map (rowI a.d))
def LA.ra (a : LA) : RA := ⟨badV a.b (ints a.ks), (a.d : Nat), a.rows⟩
def LA.Ok (a : LA) : Prop := a.d ≤ 4 ∧ a.R.length ≤ 12
theorem LA.d_le (a : LA) : a.d ≤ 8 := varsK_len a.v 8
theorem badV_len (b : Nat) (l : List Int) : (badV b l).length ≤ l.length + 1 := by
  unfold badV
  split
  · omega
  · split
    · simp
    · split <;> simp

/-- Atoms of the laws in memory. -/
def AtsL (B : Nat) (w : World) (A : Option Addr) (l : List LA) : Prop :=
  l ≠ [] → ∃ b o, A = some ⟨b, o, none⟩ ∧ b < B ∧ ∀ i (h : i < l.length), ∃ RA RC, w.cell? ⟨b, o + i * 3, none⟩ = some (.int .u8 (l[i].v : Nat)) ∧ w.cell? ⟨b, o + i * 3 + 1, none⟩ = some (.slice RA l[i].R.length RC) ∧ w.cell? ⟨b, o + i * 3 + 2, none⟩ = some (.int .u8 (l[i].b : Nat)) ∧ SlA 4 B w RA l[i].R
def LBytes (l : List LA) : Prop := ∀ a ∈ l, a.v < 256 ∧ a.b < 256 ∧ Bytes a.R
theorem atsL_at {B : Nat} {w : World} {A : Option Addr} {l : List LA} (h : AtsL B w A l) {i : Nat} (hi : i < l.length) : ∃ b o RA RC, A = some ⟨b, o, none⟩ ∧ b < B ∧ w.cell? ⟨b, o + i * 3, none⟩ = some (.int .u8 (l[i].v : Nat)) ∧ w.cell? ⟨b, o + i * 3 + 1, none⟩ = some (.slice RA l[i].R.length RC) ∧ w.cell? ⟨b, o + i * 3 + 2, none⟩ = some (.int .u8 (l[i].b : Nat)) ∧ SlA 4 B w RA l[i].R := by
  obtain ⟨b, o, e, hlt, hc⟩ := h (by intro h0; subst h0; simp at hi)
  obtain ⟨RA, RC, h⟩ := hc i hi
  exact ⟨b, o, RA, RC, e, hlt, h⟩

/-- The headers of an atom that is made. -/
structure HM where
  VA : Option Addr
  VC : Nat
  PA : Option Addr
  PC : Nat
  QA : Option Addr
  QC : Nat
def outC (z : RA × HM) : List Value := [.slice z.2.VA z.1.vs.length z.2.VC, .int .i64 z.1.ar, .slice z.2.PA z.1.P.length z.2.PC]
def refC (z : RA × HM) : List Value := [.slice z.2.VA z.1.vs.length z.2.VC, .slice z.2.QA z.1.P.length z.2.QC]
def arC (z : RA × HM) : List Value := [.int .i64 z.1.ar]
structure HmOk (z : RA × HM) : Prop where
  v1 : z.1.vs.length ≤ z.2.VC
  v2 : z.2.VC ≤ 9223372036854775807
  p1 : z.1.P.length ≤ z.2.PC
  p2 : z.2.PC ≤ 9223372036854775807
  q1 : z.1.P.length ≤ z.2.QC
  q2 : z.2.QC ≤ 9223372036854775807
def ElR (B : Nat) (z : RA × HM) (w : World) : Prop := SlI .i64 B w z.2.VA z.1.vs ∧ SlRs B w z.2.PA z.1.P ∧ SlRs B w z.2.QA z.1.P
theorem ElR.more {B B' : Nat} {z : RA × HM} {w : World} (h : ElR B z w) (hB : B ≤ B') : ElR B' z w := ⟨h.1.more hB, h.2.1.more hB, h.2.2.more hB⟩
theorem flat_get {α : Type} (f : α → List Value) (k : Nat) (hf : ∀ z, (f z).length = k) : ∀ (Z : List α) (i j : Nat) (hi : i < Z.length), j < k → (Z.flatMap f)[i * k + j]? = (f Z[i])[j]?
  | [], i, j, hi, _ => absurd hi (by simp)
  | z :: Z, 0, j, _, hj => by
    rw [List.flatMap_cons, Nat.zero_mul, Nat.zero_add, List.getElem?_append_left (by rw [hf]; exact hj)]
    rfl
  | z :: Z, i + 1, j, hi, hj => by
    rw [List.flatMap_cons, List.getElem?_append_right (by rw [hf, Nat.succ_mul]; omega), hf, show (i + 1) * k + j - k = i * k + j by rw [Nat.succ_mul]; omega]
    simpa using flat_get f k hf Z i j (by simpa using hi) hj

/-- The lists that Made builds: three boxes, and what they point at. -/
structure MadeI (base : Nat) (w : World) (Z : List (RA × HM)) (vo vm va : Value) : Prop where
  out : w.ownsRow base 52 3 vo Z.length (Z.flatMap outC)
  ref : w.ownsRow base 79 2 vm Z.length (Z.flatMap refC)
  ar : w.ownsRow base 3 1 va Z.length (Z.flatMap arC)
  om : ∀ b, vo.ownBlock = some b → vm.ownBlock ≠ some b
  oa : ∀ b, vo.ownBlock = some b → va.ownBlock ≠ some b
  ma : ∀ b, vm.ownBlock = some b → va.ownBlock ≠ some b
  el : Stab (fun b => vo.ownBlock = some b ∨ vm.ownBlock = some b ∨ va.ownBlock = some b) w fun w'' => ∀ z ∈ Z, ElR w.heap.size z w''
  ok : ∀ z ∈ Z, HmOk z
theorem MadeI.nil (base : Nat) (w : World) : MadeI base w [] (.slice none 0 0) (.slice none 0 0) (.slice none 0 0) :=
  ⟨own_nil _ _ _ _, own_nil _ _ _ _, own_nil _ _ _ _, fun _ h => (by cases h), fun _ h => (by cases h), fun _ h => (by cases h), fun _ _ z hz => (by simp at hz), fun z hz => (by simp at hz)⟩
theorem MadeI.up {base : Nat} {w w' : World} {Z : List (RA × HM)} {vo vm va : Value} (h : MadeI base w Z vo vm va) (hb : Below w.heap.size w w') : MadeI base w' Z vo vm va :=
  ⟨own_keep h.out hb, own_keep h.ref hb, own_keep h.ar hb, h.om, h.oa, h.ma, (h.el.up hb).imp fun _ hs z hz => (hs z hz).more hb.size, h.ok⟩
theorem own_slice {w : World} {base : Nat} {e : TypeId} {size : Nat} {v : Value} {n : Nat} {xs : List Value} (h : w.ownsRow base e size v n xs) (_hs : 0 < size) : ∃ A C, v = .slice A n C ∧ n ≤ C ∧ C ≤ 9223372036854775807 ∧ (xs ≠ [] → ∃ b, A = some ⟨b, 0, none⟩ ∧ b < w.heap.size ∧ ∀ (j : Nat) u, xs[j]? = some u → w.cell? ⟨b, j, none⟩ = some u) := by
  rcases h.2 with ⟨h1, h0⟩ | ⟨g, cap, cur, h1, _, _, h5, hm, _⟩
  · subst h1 h0
    refine ⟨none, 0, rfl, Nat.le_refl _, by omega, fun hx => absurd (List.eq_nil_of_length_eq_zero (by rw [h.1, Nat.zero_mul])) hx⟩
  · subst h1
    refine ⟨some ⟨g, 0, none⟩, cap, rfl, h5, by unfold maxLen at hm; omega, fun _ => ⟨g, rfl, own_lt h g rfl, fun j u hu => ?_⟩⟩
    have := h.cells (g := g) rfl j u hu
    rwa [Addr.add_lit, Nat.zero_add] at this
theorem MadeI.fin {base : Nat} {w : World} {Z : List (RA × HM)} {vo vm va : Value} (h : MadeI base w Z vo vm va) :
    ∃ A1 C1 A2 C2 A3 C3, vo = .slice A1 Z.length C1 ∧ vm = .slice A2 Z.length C2 ∧ va = .slice A3 Z.length C3 ∧ Z.length ≤ C1 ∧ C1 ≤ 9223372036854775807 ∧ Z.length ≤ C2 ∧ C2 ≤ 9223372036854775807 ∧ Z.length ≤ C3 ∧ C3 ≤ 9223372036854775807 ∧ AtsM w.heap.size w A1 (Z.map Prod.fst) ∧ AtsR w.heap.size w A2 (Z.map Prod.fst) ∧ SlI .i64 w.heap.size w A3 (Z.map fun z => z.1.ar) := by
  obtain ⟨A1, C1, e1, c1, d1, f1⟩ := own_slice h.out (by decide)
  obtain ⟨A2, C2, e2, c2, d2, f2⟩ := own_slice h.ref (by decide)
  obtain ⟨A3, C3, e3, c3, d3, f3⟩ := own_slice h.ar (by decide)
  have hel := h.el.now
  have hne : ∀ (f : RA × HM → List Value) (k : Nat), (∀ z, (f z).length = k + 1) → Z ≠ [] → Z.flatMap f ≠ [] := fun f k hf hn h0 => by
    obtain ⟨z, t, rfl⟩ := List.exists_cons_of_ne_nil hn
    rw [List.flatMap_cons] at h0
    have := List.append_eq_nil_iff.1 h0
    have h2 := hf z
    rw [this.1] at h2
    simp at h2
  refine ⟨A1, C1, A2, C2, A3, C3, e1, e2, e3, c1, d1, c2, d2, c3, d3, fun hn => ?_, fun hn => ?_, fun hn => ?_⟩
  · have hz : Z ≠ [] := by intro e; subst e; exact hn rfl
    obtain ⟨b, rfl, hb, hc⟩ := f1 (hne outC 2 (fun _ => rfl) hz)
    refine ⟨b, 0, rfl, hb, fun i hi => ?_⟩
    rw [List.length_map] at hi
    have hm : Z[i] ∈ Z := List.getElem_mem hi
    have ho := h.ok _ hm
    have he := hel _ hm
    have g := fun j hj => flat_get outC 3 (fun _ => rfl) Z i j hi hj
    rw [List.getElem_map]
    exact ⟨_, _, _, _, by rw [Nat.zero_add]; exact hc _ _ (g 0 (by omega)), by rw [Nat.zero_add]; exact hc _ _ (g 1 (by omega)), by rw [Nat.zero_add]; exact hc _ _ (g 2 (by omega)), ho.v1, ho.v2, ho.p1, ho.p2, he.1, he.2.1⟩
  · have hz : Z ≠ [] := by intro e; subst e; exact hn rfl
    obtain ⟨b, rfl, hb, hc⟩ := f2 (hne refC 1 (fun _ => rfl) hz)
    refine ⟨b, 0, rfl, hb, fun i hi => ?_⟩
    rw [List.length_map] at hi
    have hm : Z[i] ∈ Z := List.getElem_mem hi
    have ho := h.ok _ hm
    have he := hel _ hm
    have g := fun j hj => flat_get refC 2 (fun _ => rfl) Z i j hi hj
    rw [List.getElem_map]
    exact ⟨_, _, _, _, by rw [Nat.zero_add]; exact hc _ _ (g 0 (by omega)), by rw [Nat.zero_add]; exact hc _ _ (g 1 (by omega)), ho.v1, ho.v2, ho.q1, ho.q2, he.1, he.2.2⟩
  · have hz : Z ≠ [] := by intro e; subst e; exact hn rfl
    obtain ⟨b, rfl, hb, hc⟩ := f3 (hne arC 0 (fun _ => rfl) hz)
    refine ⟨b, 0, rfl, hb, fun i u hu => ?_⟩
    rw [Nat.zero_add]
    refine hc _ _ ?_
    have hl : i < Z.length := by
      have := (List.getElem?_eq_some_iff.1 hu).1
      simpa using this
    have g := flat_get arC 1 (fun _ => rfl) Z i 0 hl (by omega)
    rw [Nat.mul_one, Nat.add_zero] at g
    rw [g]
    rw [List.getElem?_map, List.getElem?_map, List.getElem?_eq_getElem hl] at hu
    exact hu

end Go.Proofs.Ytiomelogggilgaa
end

section
/- Three boxes that one call fills in turn. -/
namespace Go.Proofs.Ytiomelogggilgaa
open Go.RowKit Go.Sort

/-- Three lists that a call builds, and what they point at. -/
structure Three (base : Nat) (w : World) (vo : Value) (no : Nat) (xo : List Value) (vm : Value) (nm : Nat) (xm : List Value) (va : Value) (na : Nat) (xa : List Value) (S : World → Prop) : Prop where
  out : w.ownsRow base 52 3 vo no xo
  ref : w.ownsRow base 79 2 vm nm xm
  ar : w.ownsRow base 3 1 va na xa
  om : ∀ b, vo.ownBlock = some b → vm.ownBlock ≠ some b
  oa : ∀ b, vo.ownBlock = some b → va.ownBlock ≠ some b
  ma : ∀ b, vm.ownBlock = some b → va.ownBlock ≠ some b
  el : Stab (fun b => vo.ownBlock = some b ∨ vm.ownBlock = some b ∨ va.ownBlock = some b) w S
theorem MadeI.three {base : Nat} {w : World} {Z : List (RA × HM)} {vo vm va : Value} (h : MadeI base w Z vo vm va) :
    Three base w vo Z.length (Z.flatMap outC) vm Z.length (Z.flatMap refC) va Z.length (Z.flatMap arC) fun w'' => ∀ z ∈ Z, ElR w.heap.size z w'' :=
  ⟨h.out, h.ref, h.ar, h.om, h.oa, h.ma, h.el⟩
section
variable {base : Nat} {w w' : World} {vo vm va : Value} {no nm na : Nat} {xo xm xa : List Value} {S T : World → Prop}
theorem Three.lt (h : Three base w vo no xo vm nm xm va na xa S) : ∀ b, (vo.ownBlock = some b ∨ vm.ownBlock = some b ∨ va.ownBlock = some b) → b < w.heap.size := fun b hb => by
  rcases hb with hb | hb | hb
  · exact own_lt h.out _ hb
  · exact own_lt h.ref _ hb
  · exact own_lt h.ar _ hb
theorem Three.up (h : Three base w vo no xo vm nm xm va na xa S) (hb : Below w.heap.size w w') : Three base w' vo no xo vm nm xm va na xa S :=
  ⟨own_keep h.out hb, own_keep h.ref hb, own_keep h.ar hb, h.om, h.oa, h.ma, h.el.up hb⟩
/-- What the call makes meanwhile. -/
theorem Three.push (h : Three base w vo no xo vm nm xm va na xa S) (hb : Below w.heap.size w w')
    (hT : ∀ w'' : World, (∀ p : Addr, w.heap.size ≤ p.block → p.block < w'.heap.size → w''.cell? p = w'.cell? p) → T w'') : Three base w' vo no xo vm nm xm va na xa fun w'' => S w'' ∧ T w'' :=
  ⟨own_keep h.out hb, own_keep h.ref hb, own_keep h.ar hb, h.om, h.oa, h.ma, (h.el.up hb).and (Stab.of_from (lo := w.heap.size) (fun b hlo hf => absurd (h.lt b hf) (by omega)) hT)⟩
theorem Three.growO (h : Three base w vo no xo vm nm xm va na xa S) {vo' : Value} {no' : Nat} {xo' : List Value} (ho : w'.ownsRow base 52 3 vo' no' xo') (hg : w.grownBy w' vo.ownBlock) (hv : ∀ b, vo'.ownBlock = some b → vo.ownBlock = some b ∨ b = w.heap.size) :
    Three base w' vo' no' xo' vm nm xm va na xa S :=
  ⟨ho, own_grown h.ref hg fun k hk e => h.om k e.symm hk, own_grown h.ar hg fun k hk e => h.oa k e.symm hk,
   fun b hb hb' => (hv b hb).elim (fun e => h.om b e hb') fun e => by have := own_lt h.ref b hb'; omega,
   fun b hb hb' => (hv b hb).elim (fun e => h.oa b e hb') fun e => by have := own_lt h.ar b hb'; omega, h.ma,
   h.el.grow hg (fun b e => .inl e) fun b hlt hf => by
     rcases hf with hf | hf
     · exact .inl ((hv b hf).resolve_right (by omega))
     · exact .inr hf⟩
theorem Three.growM (h : Three base w vo no xo vm nm xm va na xa S) {vm' : Value} {nm' : Nat} {xm' : List Value} (ho : w'.ownsRow base 79 2 vm' nm' xm') (hg : w.grownBy w' vm.ownBlock) (hv : ∀ b, vm'.ownBlock = some b → vm.ownBlock = some b ∨ b = w.heap.size) :
    Three base w' vo no xo vm' nm' xm' va na xa S :=
  ⟨own_grown h.out hg fun k hk e => h.om k hk e.symm, ho, own_grown h.ar hg fun k hk e => h.ma k e.symm hk,
   fun b hb hb' => (hv b hb').elim (fun e => h.om b hb e) fun e => by have := own_lt h.out b hb; omega, h.oa,
   fun b hb hb' => (hv b hb).elim (fun e => h.ma b e hb') fun e => by have := own_lt h.ar b hb'; omega,
   h.el.grow hg (fun b e => .inr (.inl e)) fun b hlt hf => by
     rcases hf with hf | hf | hf
     · exact .inl hf
     · exact .inr (.inl ((hv b hf).resolve_right (by omega)))
     · exact .inr (.inr hf)⟩
theorem Three.growA (h : Three base w vo no xo vm nm xm va na xa S) {va' : Value} {na' : Nat} {xa' : List Value} (ho : w'.ownsRow base 3 1 va' na' xa') (hg : w.grownBy w' va.ownBlock) (hv : ∀ b, va'.ownBlock = some b → va.ownBlock = some b ∨ b = w.heap.size) :
    Three base w' vo no xo vm nm xm va' na' xa' S :=
  ⟨own_grown h.out hg fun k hk e => h.oa k hk e.symm, own_grown h.ref hg fun k hk e => h.ma k hk e.symm, ho, h.om,
   fun b hb hb' => (hv b hb').elim (fun e => h.oa b hb e) fun e => by have := own_lt h.out b hb; omega,
   fun b hb hb' => (hv b hb').elim (fun e => h.ma b hb e) fun e => by have := own_lt h.ref b hb; omega,
   h.el.grow hg (fun b e => .inr (.inr e)) fun b hlt hf => by
     rcases hf with hf | hf | hf
     · exact .inl hf
     · exact .inr (.inl hf)
     · exact .inr (.inr ((hv b hf).resolve_right (by omega)))⟩
end
/-- One atom more. -/
theorem MadeI.step {base : Nat} {w : World} {vo vm va : Value} {Z : List (RA × HM)} {B1 B2 B3 B4 : Nat} {z : RA × HM} {n : Nat} (hn : n = Z.length + 1)
    (h : Three base w vo n (Z.flatMap outC ++ outC z) vm n (Z.flatMap refC ++ refC z) va n (Z.flatMap arC ++ arC z) fun w'' => ((∀ z ∈ Z, ElR B1 z w'') ∧ (SlI .i64 B2 w'' z.2.VA z.1.vs ∧ SlRs B3 w'' z.2.PA z.1.P)) ∧ SlRs B4 w'' z.2.QA z.1.P)
    (h1 : B1 ≤ w.heap.size) (h2 : B2 ≤ w.heap.size) (h3 : B3 ≤ w.heap.size) (h4 : B4 ≤ w.heap.size) (hk : ∀ z ∈ Z, HmOk z) (hz : HmOk z) : MadeI base w (Z ++ [z]) vo vm va := by
  subst hn
  have e1 : ∀ f : RA × HM → List Value, (Z ++ [z]).flatMap f = Z.flatMap f ++ f z := fun f => by rw [List.flatMap_append]; simp
  have el : (Z ++ [z]).length = Z.length + 1 := by simp
  refine ⟨by rw [el, e1]; exact h.out, by rw [el, e1]; exact h.ref, by rw [el, e1]; exact h.ar, h.om, h.oa, h.ma, h.el.imp fun w'' hs y hy => ?_, fun y hy => ?_⟩
  · rcases List.mem_append.1 hy with hy | hy
    · exact (hs.1.1 y hy).more h1
    · simp at hy; subst hy
      exact ⟨hs.1.2.1.more h2, hs.1.2.2.more h3, hs.2.more h4⟩
  · rcases List.mem_append.1 hy with hy | hy
    · exact hk y hy
    · simp at hy; subst hy; exact hz

/-- A list of the call's own that reads while its blocks are kept. -/
theorem own_held {w : World} {base : Nat} {e : TypeId} {n : Nat} {xs : List Value} {A : Option Addr} {C : Nat} (h : w.ownsRow base e 1 (.slice A n C) n xs) :
    n ≤ C ∧ C ≤ 9223372036854775807 ∧ ∀ w'' : World, (∀ p : Addr, base ≤ p.block → p.block < w.heap.size → w''.cell? p = w.cell? p) → Sl w.heap.size w'' A xs := by
  obtain ⟨A', C', e', h1, h2, h3⟩ := own_slice h (by decide)
  injection e' with e1 _ e3
  subst e1 e3
  refine ⟨h1, h2, fun w'' hk hn => ?_⟩
  obtain ⟨b, rfl, hb, hc⟩ := h3 hn
  refine ⟨b, 0, rfl, hb, fun i u hu => ?_⟩
  rw [Nat.zero_add]
  exact (hk ⟨b, i, none⟩ (own_base h rfl) hb).trans (hc i u hu)

end Go.Proofs.Ytiomelogggilgaa
end

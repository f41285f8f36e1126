/- Parts of the proof, merged: Y24, Y25, Y26, Y31, G12, G13. -/
import Derived.Test.YthgaflmldbgbnaaGreatDoorQ5
import Derived.Test.YthgaflmldbgbnaaGreatDoorQ3

set_option maxRecDepth 100000
namespace Go.Proofs.YthgaflmldbgbnaaGreatDoor
section
open Go.RowKit Go.Sort

theorem flat_len {α : Type} (f : α → List RL.R) (K : Nat) (h : ∀ c, (f c).length ≤ K) : ∀ L : List α, (L.flatMap f).length ≤ L.length * K
  | [] => by simp
  | c :: t => by
    rw [List.flatMap_cons, List.length_append, List.length_cons, Nat.succ_mul, Nat.add_comm]
    exact Nat.add_le_add (flat_len f K h t) (h c)
theorem refJ_len {l : List At} {vals : Nat → RL.R} {M : Nat} (hv : ∀ v, (vals v).length ≤ M) (hM : 1 ≤ M) : ∀ m x, (refJ l vals m x).length ≤ M ^ m
  | 0, x => by
    unfold refJ
    split <;> simp
  | m + 1, x => by
    unfold refJ
    split
    · refine Nat.le_trans (flat_len _ (M ^ m) (fun c => refJ_len hv hM m _) _) ?_
      rw [Nat.pow_succ, Nat.mul_comm (M ^ m)]
      exact Nat.mul_le_mul_right _ (hv _)
    · simp
theorem flat_take {α : Type} (f : α → List RL.R) (L : List α) {i : Nat} (hi : i < L.length) : (L.take (i + 1)).flatMap f = (L.take i).flatMap f ++ f L[i] := by
  rw [List.take_succ_eq_append_getElem hi, List.flatMap_append]
  simp

def OwnJ (w : World) (base : Nat) (v : Value) (Y : List RL.R) : Prop := ∃ hs, w.ownsRow base 103 1 v Y.length hs ∧ Hdrs (fun b => base ≤ b ∧ v.ownBlock ≠ some b) w.heap.size w hs Y
section
variable {w w' : World} {lo : Nat} {v : Value} {Y : List RL.R}
theorem OwnJ.nil (w : World) (lo : Nat) : OwnJ w lo (.slice none 0 0) [] := ⟨[], own_nil _ _ _ _, Hdrs.nil⟩
theorem OwnJ.up (h : OwnJ w lo v Y) (hb : Below w.heap.size w w') : OwnJ w' lo v Y := by
  obtain ⟨hs, h1, h2⟩ := h
  exact ⟨hs, own_keep h1 hb, (h2.keep fun p hp _ => hb.cell hp).more hb.size⟩
theorem OwnJ.base (h : OwnJ w lo v Y) : ∀ k, v.ownBlock = some k → lo ≤ k := by
  obtain ⟨hs, h1, _⟩ := h
  exact fun k hk => own_base h1 hk
theorem OwnJ.lt (h : OwnJ w lo v Y) : ∀ k, v.ownBlock = some k → k < w.heap.size := by
  obtain ⟨hs, h1, _⟩ := h
  exact own_lt h1
theorem OwnJ.sl {P : Nat → Prop} (h : OwnJ w lo v Y) (hP : ∀ b, lo ≤ b → P b) : ∃ A C, v = .slice A Y.length C ∧ Y.length ≤ C ∧ C ≤ 9223372036854775807 ∧ SlRsP P w.heap.size w A Y := by
  obtain ⟨hs, h1, h2⟩ := h
  exact own_slrs h1 (h2.weak fun b _ hb => hP b hb.1) (Nat.le_refl _) hP
end
theorem appJ {w : World} {ops : Array Oper} {rest : List Oper} {o : Oper} {a : Act} {Q : Exit → Act → World → Prop} (hgd : o.guard = none) (s x : Operand)
    (ho : o.op = .call { callee := .builtin .append, args := #[s, x], argTypes := #[43, 43] })
    (base : Nat) (v : Value) (Y : List RL.R) (hs0 : a.eval s = v) (hown : OwnJ w base v Y)
    (A : Option Addr) (C : Nat) (Z : List RL.R) (hx : a.eval x = .slice A Z.length C) (hZ : SlRsP (fun b => base ≤ b ∧ v.ownBlock ≠ some b) w.heap.size w A Z)
    (hn : (Y.length + Z.length) * 24 ≤ 140737488355328) (hbase : base ≤ w.heap.size)
    (h : ∀ v' w', OwnJ w' base v' (Y ++ Z) → w.grownBy w' v.ownBlock → wpList Tryz.prog ops Q rest (a.put o.dst v') w') : wpList Tryz.prog ops Q (o :: rest) a w := by
  obtain ⟨i0, hi0, hz0, hz1, hz2⟩ := info_parts r7rowInfo
  obtain ⟨hs, h1, h2⟩ := hown
  obtain ⟨ns, hH, hcell, hnone⟩ := hZ.hdrs
  refine wpList_plain hgd fun K hK => ?_
  rcases A with _ | ad
  · have hy := hnone rfl
    subst hy
    have hrun := run_append_none (P := Tryz.prog) w base 43 o.type 103 i0 1 Tryz.underlying43 hi0 v Y.length hs h1 C
    unfold Oper.wp execOp
    simp only [List.length_nil] at hx
    simp only [ho, resolve, invoke, builtin, Sem.run_bind, Sem.run_pure, Result.andThen_ok, List.map_toArray, List.map_cons, List.map_nil, hs0, hx, hrun]
    exact hK _ _ (h v w (by rw [List.append_nil]; exact ⟨hs, h1, h2⟩) ⟨rfl, rfl, rfl, Nat.le_refl _, fun _ _ _ => rfl⟩)
  · obtain ⟨v', w', hrun, k2, k3, _, k5⟩ := run_append_own_at (P := Tryz.prog) w base 43 o.type 103 i0 _ 1 24 Tryz.underlying43 hi0 hz0 hz1 hz2 rfl (by decide) v Y.length hs h1 ad Z.length C ns (by have := hH.1; omega) (hcell ad rfl) hH.cells (by simp only [maxLen]; omega) (by omega) hbase
    unfold Oper.wp execOp
    simp only [ho, resolve, invoke, builtin, Sem.run_bind, Sem.run_pure, Result.andThen_ok, List.map_toArray, List.map_cons, List.map_nil, hs0, hx, hrun]
    refine hK _ _ (h v' w' ⟨hs ++ ns, by rw [List.length_append]; exact k2, ?_⟩ k3)
    refine (((h2.append hH).keep fun p hp hP => grown_cell k3 hp (fun e => hP.2 e.symm)).weak fun b hb hP => ⟨hP.1, ?_⟩).more k3.size
    rcases k5 with k5 | k5
    · rw [k5]; exact hP.2
    · rw [k5]
      intro e
      injection e with e
      omega

theorem boxJ0 {w : World} {A : Option Addr} {x : RL.R} {C : Nat} {T : TypeId} {P : Nat → Prop} (hs : SlR w.heap.size w A x) (hc : x.length ≤ C) (hm : C ≤ 9223372036854775807) (hP : x ≠ [] → ∀ ad, A = some ad → P ad.block) (hb : P w.heap.size) :
    SlRsP P (w.alloc (.cells #[.slice A x.length C] T)).heap.size (w.alloc (.cells #[.slice A x.length C] T)) (some ⟨w.heap.size, 0, none⟩) [x] := fun _ => by
  have hr := Row.new w T [.slice A x.length C]
  refine ⟨w.heap.size, 0, rfl, hr.lt, hb, [.slice A x.length C], Hdrs.one ⟨A, C, rfl, hc, hm, hs.alloc1 _, hP⟩, fun i u hu => ?_⟩
  rw [Nat.zero_add]
  exact (hr.cell i).trans hu
theorem appRWs {w : World} {ops : Array Oper} {rest : List Oper} {o : Oper} {a : Act} {Q : Exit → Act → World → Prop} (hgd : o.guard = none) (s x : Operand)
    (ho : o.op = .call { callee := .builtin .append, args := #[s, x], argTypes := #[103, 103] })
    (base : Nat) (v : Value) (l : RL.R) (hs0 : a.eval s = v) (hown : w.ownsRow base 114 3 v l.length (rcells l))
    (A : Option Addr) (C : Nat) (z : RL.R) (hx : a.eval x = .slice A z.length C) (hz : SlR w.heap.size w A z)
    (hn : l.length + z.length ≤ 1000000) (hbase : base ≤ w.heap.size)
    (h : ∀ v' w', w'.ownsRow base 114 3 v' (l ++ z).length (rcells (l ++ z)) → w.grownBy w' v.ownBlock → wpList Tryz.prog ops Q rest (a.put o.dst v') w') : wpList Tryz.prog ops Q (o :: rest) a w := by
  obtain ⟨i0, hi0, hz0, hz1, hz2⟩ := info_parts r1Info
  have hcell : ∀ ad, A = some ad → ∀ j u, (rcells z)[j]? = some u → w.cell? (ad.add j) = some u := fun ad e j u hu => by
    obtain ⟨b, o, e', hb, hc⟩ := hz (by intro h0; rw [h0] at hu; simp at hu)
    rw [e] at e'
    injection e' with e'
    subst e'
    rw [Addr.add_lit]
    exact hc j u hu
  refine wpList_plain hgd fun K hK => ?_
  rcases A with _ | ad
  · have hy : z = [] := by
      refine Classical.byContradiction fun hne => ?_
      obtain ⟨b, o, e', hb, hc⟩ := hz (ne_rcells hne)
      cases e'
    subst hy
    have hrun := run_append_none (P := Tryz.prog) w base 103 o.type 114 i0 3 Tryz.underlying103 hi0 v l.length (rcells l) hown C
    unfold Oper.wp execOp
    simp only [List.length_nil] at hx
    simp only [ho, resolve, invoke, builtin, Sem.run_bind, Sem.run_pure, Result.andThen_ok, List.map_toArray, List.map_cons, List.map_nil, hs0, hx, hrun]
    exact hK _ _ (h v w (by rw [List.append_nil]; exact hown) ⟨rfl, rfl, rfl, Nat.le_refl _, fun _ _ _ => rfl⟩)
  · obtain ⟨v', w', hrun, k2, k3, _, k5⟩ := run_append_own_at (P := Tryz.prog) w base 103 o.type 114 i0 _ 3 32 Tryz.underlying103 hi0 hz0 hz1 hz2 rfl (by decide) v l.length (rcells l) hown ad z.length C (rcells z) (rcells_length z) (hcell ad rfl) (rcells_one z) (by simp only [maxLen]; omega) (by omega) hbase
    unfold Oper.wp execOp
    simp only [ho, resolve, invoke, builtin, Sem.run_bind, Sem.run_pure, Result.andThen_ok, List.map_toArray, List.map_cons, List.map_nil, hs0, hx, hrun]
    exact hK _ _ (h v' w' (by rw [List.length_append, rcells_append]; exact k2) k3)

theorem valsF_ok {X : List RA} (hok : ∀ a ∈ X, RefOk a) (v : Int) : StrOk (valsF X v) := fun c hc => by
  unfold valsF at hc
  split at hc
  · rename_i a k hcol
    have ha : a ∈ X := by
      unfold colF at hcol
      obtain ⟨a', ha', h1⟩ := List.exists_of_findSome?_eq_some hcol
      obtain ⟨k', _, e⟩ := Option.map_eq_some_iff.1 h1
      injection e with e1 _
      rw [← e1]; exact ha'
    obtain ⟨r, hr, rfl⟩ := List.mem_map.1 hc
    obtain ⟨y, hy, rfl⟩ := List.mem_map.1 ((RL.mem_ofF _ _).1 hr)
    show (y.getD (k : Int).toNat zV).str.size ≤ _
    rw [Int.toNat_natCast, List.getD_eq_getElem?_getD]
    cases h : y[k]? with
    | none => exact Nat.zero_le _
    | some u => exact ((hok a ha).ok y hy).2 u (List.mem_of_getElem? h)
  · simp at hc
theorem ROk.snoc {x : RL.R} (h : ROk x) {c : RL.V} (hc : c.str.size ≤ 1000000000) (hl : x.length < 1000000) : ROk (x ++ [c]) := by
  refine ⟨by rw [List.length_append]; simp; omega, fun v hv => ?_⟩
  rcases List.mem_append.1 hv with hv | hv
  · exact h.2 v hv
  · simp at hv; subst hv; exact hc

theorem refJ_no {l : List At} {vals : Nat → RL.R} {x : RL.R} (h : ¬ preB l x) : ∀ m, refJ l vals m x = []
  | 0 => by unfold refJ; rw [if_neg h]
  | m + 1 => by unfold refJ; rw [if_neg h]
theorem refJ_yes {l : List At} {vals : Nat → RL.R} {x : RL.R} (h : preB l x) (m : Nat) : refJ l vals (m + 1) x = (vals x.length).flatMap fun c => refJ l vals m (x ++ [c]) := by
  rw [refJ, if_pos h]
def RJPost (X : List RA) (m : Nat) (x : RL.R) (KA : Option Addr) (w : World) (e : Ending) (w' : World) : Prop :=
  (∃ A C, e = .returned (.slice A (refJ (X.map RA.at) (fun v => valsF X (v : Int)) m x).length C) ∧ (refJ (X.map RA.at) (fun v => valsF X (v : Int)) m x).length ≤ C ∧ C ≤ 9223372036854775807 ∧ SlRsP (fun b => w.heap.size ≤ b ∨ ∃ ad, KA = some ad ∧ ad.block = b) w'.heap.size w' A (refJ (X.map RA.at) (fun v => valsF X (v : Int)) m x)) ∧ Below w.heap.size w w'
theorem RJPost.nil {X : List RA} {m : Nat} {x : RL.R} {KA : Option Addr} {w w' : World} (h : ¬ preB (X.map RA.at) x) (hb : Below w.heap.size w w') : RJPost X m x KA w (.returned (.slice none 0 0)) w' := by
  unfold RJPost
  rw [refJ_no h]
  exact ⟨⟨none, 0, rfl, Nat.le_refl _, by omega, SlRsP.nil⟩, hb⟩

set_option maxHeartbeats 8000000 in
theorem r35Join_any (n AC : Nat) (AA : Option Addr) (X : List RA) (hn : n ≤ 8) (hXl : X.length ≤ 1000000) (hok : ∀ a ∈ X, RefOk a) (hat : ∀ a ∈ X, a.at.Ok n) (hM : ∀ v, (valsF X v).length ≤ 12) :
    ∀ (m : Nat) (x : RL.R) (KA : Option Addr) (KC : Nat) (w : World), x.length + m = n → ROk x → AtsR w.heap.size w AA X → SlR w.heap.size w KA x → x.length ≤ KC → KC ≤ 9223372036854775807 →
    Calls Tryz.prog 34 #[.int .i64 n, .slice KA x.length KC, .slice AA X.length AC] w (RJPost X m x KA w) := by
  have HOK := Lib.hid hok
  have HAT := Lib.hid hat
  have HM := Lib.hid hM
  clear hok hat hM
  intro m
  induction m with
  | zero =>
    intro x KA KC w hxm hxo hA hx hkc hkm
    have HXO := Lib.hid hxo
    have HA := Lib.hid hA
    have HX := Lib.hid hx
    have HXM := Lib.hid hxm
    have HKC := Lib.hid (And.intro hkc hkm)
    have hnb : ((x.length : Int) == (n : Int)) = true := by
      have : (x.length : Int) = (n : Int) := by omega
      simp [this]
    have hxl8 : x.length ≤ 8 := by omega
    clear hxo hA hx hxm hkc hkm
    go_enter Tryz.func34, Tryz.ntmps34
    go_wp2
    go_loopw [7] (fun c wr => ∃ i : Nat, i ≤ X.length ∧ c = .int .i64 i ∧ (∀ j (hj : j < X.length), j < i → allowsB X[j] x = true) ∧ Ext w wr) (fun c _ => X.length - (intOf c).toNat)
    case atStart => exact ⟨0, Nat.zero_le _, rfl, fun j _ h => absurd h (by omega), Ext.refl _⟩
    case round =>
      obtain ⟨i, hi, rfl, hall, hx1⟩ := hrel
      have HALL := Lib.hid hall
      have HX1 := Lib.hid hx1
      clear hall
      by_cases h1 : i < X.length
      · obtain ⟨ab, ao, VA, VC, PA, PC, rfl, hab, c0, c1, -, -, -, -, q5, q6⟩ := atsR_at HA.out h1
        have c0 := (hx1.cell (o := ao + i * 2) hab).trans c0
        have c1 := (hx1.cell (o := ao + i * 2 + 1) hab).trans c1
        have hab2 := Nat.lt_of_lt_of_le hab hx1.size
        have HRO := Lib.hid (HOK.out _ (List.getElem_mem h1))
        have HAL := Lib.hid (r35allows_any VA PA KA VC PC KC X[i] x wr ((q5.below hx1.below (Nat.le_refl _)).more hx1.size) (q6.up hx1) (HX.out.up hx1) HRO.out.len HRO.out.nn (Nat.le_trans HRO.out.vl (by decide)) (Nat.le_trans HRO.out.Pl (by decide)) (by omega) HRO.out.ok HXO.out)
        have hw1 : IntKind.i64.wrap ((i : Int) + 1) = ((i + 1 : Nat) : Int) := by rw [IntWalk.i64_in _ (by omega)]; omega
        have HPA : Hid (allowsB X[i] x = true ↔ preA X[i].at x) := allowsB_pre (HAT.out _ (List.getElem_mem h1)) HRO.out.nn x
        have HMX : Hid (X[i].at ∈ X.map RA.at) := List.mem_map.2 ⟨_, List.getElem_mem h1, rfl⟩
        clear q5 q6 hx1
        go_wp2_with fail
        refine HAL.out.mono ?_
        rintro e w1 ⟨rfl, hx2⟩
        have HX2 := Lib.hid (HX1.out.trans hx2)
        clear hx2 HAL
        cases hal : allowsB X[i] x
        · have HF : Hid (¬ preB (X.map RA.at) x) := fun hp => by
            have := HPA.out.2 (hp _ HMX.out)
            rw [hal] at this
            cases this
          clear hal HPA HMX
          go_wp2
          go_ret
          exact RJPost.nil HF.out HX2.out.below
        · have HAL : Hid (allowsB X[i] x = true) := hal
          clear hal HPA HMX
          go_wp2
          go_roundw
          case rel =>
            refine ⟨i + 1, h1, by go_num, fun j hj hlt => ?_, HX2.out⟩
            rcases Nat.lt_or_ge j i with h | h
            · exact HALL.out j hj h
            · have : j = i := by omega
              subst this
              exact HAL.out
          case measure => simp [intOf]; omega
      · have HPRE : Hid (preB (X.map RA.at) x) := fun a ha => by
          obtain ⟨r, hr, rfl⟩ := List.mem_map.1 ha
          obtain ⟨j, hj, rfl⟩ := List.getElem_of_mem hr
          exact (allowsB_pre (HAT.out _ hr) (HOK.out _ hr).nn x).1 (HALL.out j hj (by omega))
        have HRJ : Hid (refJ (X.map RA.at) (fun v => valsF X (v : Int)) 0 x = [x]) := by
          show _ = _
          rw [refJ, if_pos HPRE.out]
        have HS9 : Hid (SlRsP (fun b => w.heap.size ≤ b ∨ ∃ ad, KA = some ad ∧ ad.block = b) (wr.alloc (.cells #[.slice KA x.length KC] 103)).heap.size (wr.alloc (.cells #[.slice KA x.length KC] 103)) (some ⟨wr.heap.size, 0, none⟩) [x]) :=
          boxJ0 (HX.out.up HX1.out) HKC.out.1 HKC.out.2 (fun _ ad e => .inr ⟨ad, e, rfl⟩) (.inl HX1.out.size)
        go_wp2
        go_ret
        refine ⟨?_, (HX1.out.alloc _).below⟩
        rw [HRJ.out]
        exact ⟨_, 1, rfl, Nat.le_refl _, by omega, HS9.out⟩
  | succ m ih =>
    intro x KA KC w hxm hxo hA hx hkc hkm
    have IH := Lib.hid ih
    have HXO := Lib.hid hxo
    have HA := Lib.hid hA
    have HX := Lib.hid hx
    have HXM := Lib.hid hxm
    have hxn : x.length < n := by omega
    clear ih hxo hA hx hxm hkc hkm
    go_enter Tryz.func34, Tryz.ntmps34
    go_wp2
    go_loopw [7] (fun c wr => ∃ i : Nat, i ≤ X.length ∧ c = .int .i64 i ∧ (∀ j (hj : j < X.length), j < i → allowsB X[j] x = true) ∧ Ext w wr) (fun c _ => X.length - (intOf c).toNat)
    case atStart => exact ⟨0, Nat.zero_le _, rfl, fun j _ h => absurd h (by omega), Ext.refl _⟩
    case round =>
      obtain ⟨i, hi, rfl, hall, hx1⟩ := hrel
      have HALL := Lib.hid hall
      have HX1 := Lib.hid hx1
      clear hall
      by_cases h1 : i < X.length
      · obtain ⟨ab, ao, VA, VC, PA, PC, rfl, hab, c0, c1, -, -, -, -, q5, q6⟩ := atsR_at HA.out h1
        have c0 := (hx1.cell (o := ao + i * 2) hab).trans c0
        have c1 := (hx1.cell (o := ao + i * 2 + 1) hab).trans c1
        have hab2 := Nat.lt_of_lt_of_le hab hx1.size
        have HRO := Lib.hid (HOK.out _ (List.getElem_mem h1))
        have HAL := Lib.hid (r35allows_any VA PA KA VC PC KC X[i] x wr ((q5.below hx1.below (Nat.le_refl _)).more hx1.size) (q6.up hx1) (HX.out.up hx1) HRO.out.len HRO.out.nn (Nat.le_trans HRO.out.vl (by decide)) (Nat.le_trans HRO.out.Pl (by decide)) (by omega) HRO.out.ok HXO.out)
        have hw1 : IntKind.i64.wrap ((i : Int) + 1) = ((i + 1 : Nat) : Int) := by rw [IntWalk.i64_in _ (by omega)]; omega
        have HPA : Hid (allowsB X[i] x = true ↔ preA X[i].at x) := allowsB_pre (HAT.out _ (List.getElem_mem h1)) HRO.out.nn x
        have HMX : Hid (X[i].at ∈ X.map RA.at) := List.mem_map.2 ⟨_, List.getElem_mem h1, rfl⟩
        clear q5 q6 hx1
        go_wp2_with fail
        refine HAL.out.mono ?_
        rintro e w1 ⟨rfl, hx2⟩
        have HX2 := Lib.hid (HX1.out.trans hx2)
        clear hx2 HAL
        cases hal : allowsB X[i] x
        · have HF : Hid (¬ preB (X.map RA.at) x) := fun hp => by
            have := HPA.out.2 (hp _ HMX.out)
            rw [hal] at this
            cases this
          clear hal HPA HMX
          go_wp2
          go_ret
          exact RJPost.nil HF.out HX2.out.below
        · have HAL : Hid (allowsB X[i] x = true) := hal
          clear hal HPA HMX
          go_wp2
          go_roundw
          case rel =>
            refine ⟨i + 1, h1, by go_num, fun j hj hlt => ?_, HX2.out⟩
            rcases Nat.lt_or_ge j i with h | h
            · exact HALL.out j hj h
            · have : j = i := by omega
              subst this
              exact HAL.out
          case measure => simp [intOf]; omega
      · have HPRE : Hid (preB (X.map RA.at) x) := fun a ha => by
          obtain ⟨r, hr, rfl⟩ := List.mem_map.1 ha
          obtain ⟨j, hj, rfl⟩ := List.getElem_of_mem hr
          exact (allowsB_pre (HAT.out _ hr) (HOK.out _ hr).nn x).1 (HALL.out j hj (by omega))
        have hnb : ((x.length : Int) == (n : Int)) = false := by
          have : (x.length : Int) ≠ (n : Int) := by omega
          simpa using this
        have HV := Lib.hid (r35values_any AA AC X (x.length : Int) wr ((HA.out.upB HX1.out.below)) hXl HOK.out)
        have HRJ : Hid (refJ (X.map RA.at) (fun v => valsF X (v : Int)) (m + 1) x = (valsF X (x.length : Int)).flatMap fun c => refJ (X.map RA.at) (fun v => valsF X (v : Int)) m (x ++ [c])) := by
          exact refJ_yes HPRE.out m
        have HVO := Lib.hid (valsF_ok HOK.out (x.length : Int))
        have hvl := HM.out (x.length : Int)
        have HLEN : Hid (∀ c, (refJ (X.map RA.at) (fun v => valsF X (v : Int)) m (x ++ [c])).length ≤ 429981696) := fun c => by
          refine Nat.le_trans (refJ_len (M := 12) (fun v => HM.out v) (by omega) m _) (Nat.le_trans (Nat.pow_le_pow_right (by omega) (by have := HXM.out; omega : m ≤ 8)) (by decide))
        clear HALL hx1
        obtain ⟨F, hF⟩ : ∃ F : RL.V → List RL.R, F = fun c => refJ (X.map RA.at) (fun v => valsF X (v : Int)) m (x ++ [c]) := ⟨_, rfl⟩
        have HFF := Lib.hid hF
        have HRJ2 := Lib.hid (HRJ.out.trans (by rw [← hF]))
        have HLEN2 : Hid (∀ c, (F c).length ≤ 429981696) := fun c => by rw [HFF.out]; exact HLEN.out c
        clear hF HRJ HLEN
        generalize hvs : valsF X (x.length : Int) = vals at HV HRJ2 HVO hvl
        clear hvs
        go_wp2_with fail
        refine HV.out.mono ?_
        rintro e w1 ⟨u, rfl, hown, hb⟩
        obtain ⟨-, UA, UC, rfl, -, -, hus, -⟩ := SlR.of_own hown
        have HUS := Lib.hid hus
        have HB1 := Lib.hid (Below.then HX1.out.below hb HX1.out.size)
        clear hown hb hus HV
        go_wp2
        go_loopw [8, 10] (fun o c wx => ∃ k : Nat, k ≤ vals.length ∧ c = .int .i64 k ∧ OwnJ wx w1.heap.size o ((vals.take k).flatMap F) ∧ Below w1.heap.size w1 wx) (fun _ c _ => vals.length - (intOf c).toNat)
        case atStart => exact ⟨0, Nat.zero_le _, rfl, OwnJ.nil _ _, Below.refl _ _⟩
        case round =>
          obtain ⟨k, hk, rfl, hown, hb⟩ := hrel
          have HO := Lib.hid hown
          have HBK := Lib.hid hb
          have hzk := hb.size
          clear hown hb
          by_cases h2 : k < vals.length
          · obtain ⟨ub, uo, rfl, hub, r0, r1, r2⟩ := slR_at HUS.out h2
            have r0 := (HBK.out.cell (p := ⟨ub, uo + k * 3, none⟩) hub).trans r0
            have r1 := (HBK.out.cell (p := ⟨ub, uo + k * 3 + 1, none⟩) hub).trans r1
            have r2 := (HBK.out.cell (p := ⟨ub, uo + k * 3 + 2, none⟩) hub).trans r2
            have hub2 := Nat.lt_of_lt_of_le hub hzk
            have HT := Lib.hid (flat_take F vals h2)
            have HZO := Lib.hid (HVO.out _ (List.getElem_mem h2))
            have HWK := Lib.hid (Below.then HB1.out HBK.out HB1.out.size)
            have HXW := Lib.hid (HX.out.upB HWK.out)
            have HLT : Hid (((vals.take k).flatMap F).length ≤ 12 * 429981696) := by
              refine Nat.le_trans (flat_len F _ HLEN2.out _) (Nat.mul_le_mul_right _ ?_)
              rw [List.length_take]; omega
            generalize vals[k] = z at *
            have hw1 : IntKind.i64.wrap ((k : Int) + 1) = ((k + 1 : Nat) : Int) := by rw [IntWalk.i64_in _ (by omega)]; omega
            go_wp2_with (first
              | (at_builtin; refine appRWs rfl (.tmp 41) (.tmp 42) rfl wr.heap.size (.slice none 0 0) [] rfl (own_nil _ _ _ _) KA KC x rfl HXW.out (by simp; omega) (Nat.le_refl _) ?_
                 intro v2 w2 hown2 hg2
                 rw [List.nil_append] at hown2
                 obtain ⟨-, A2, C2, rfl, -, -, -, -⟩ := SlR.of_own hown2
                 have HO2 := Lib.hid hown2
                 have HB2 := Lib.hid (app_grown (B := wr.heap.size) hg2 (fun k hk => by simp [Value.ownBlock] at hk) (Nat.le_refl _))
                 have r0 := (HB2.out.cell (p := ⟨ub, uo + k * 3, none⟩) hub2).trans r0
                 have r1 := (HB2.out.cell (p := ⟨ub, uo + k * 3 + 1, none⟩) hub2).trans r1
                 have r2 := (HB2.out.cell (p := ⟨ub, uo + k * 3 + 2, none⟩) hub2).trans r2
                 have hub3 := Nat.lt_of_lt_of_le hub2 HB2.out.size
                 have hz2 := HB2.out.size
                 clear hown2 hg2)
              | (at_builtin; refine app1W rfl (.tmp 46) (.tmp 51) rfl wr.heap.size (.slice A2 x.length C2) x rfl (HO2.out.alloc _) w2.heap.size z rfl ((Row.new w2 114 (vcells z)).cell 0) ((Row.new w2 114 (vcells z)).cell 1) ((Row.new w2 114 (vcells z)).cell 2) (by omega) (by simp; omega) ?_
                 intro v3 w3 hown3 hg3
                 obtain ⟨-, A3, C3, rfl, hc3, hm3, hs3, hf3⟩ := SlR.of_own hown3
                 have HB3 := Lib.hid (Below.then HB2.out (app_kept (B := wr.heap.size) (fun k hk => own_base HO2.out hk) hz2 hg3) (Nat.le_refl _))
                 have hj := (IH.out (x ++ [z]) A3 C3 w3 (by rw [List.length_append, List.length_singleton]; have := HXM.out; omega) (HXO.out.snoc HZO.out (by omega)) (HA.out.upB (Below.then HWK.out HB3.out HWK.out.size)) hs3 hc3 hm3)
                 rw [List.length_append, List.length_singleton] at hj
                 have HJ := Lib.hid hj
                 have HF3 := Lib.hid hf3
                 have hz3 := HB3.out.size
                 clear hown3 hg3 hs3 hc3 hm3 hf3 hj))
            refine HJ.out.mono ?_
            rintro e w4 ⟨⟨A4, C4, rfl, hc4, hm4, hs4⟩, hb4⟩
            have HS4 : Hid (SlRsP (fun b => w1.heap.size ≤ b ∧ u8.ownBlock ≠ some b) w4.heap.size w4 A4 (F z)) := by
              rw [HFF.out]
              refine hs4.weak fun b _ hb => ?_
              have hge : wr.heap.size ≤ b := by
                rcases hb with h | ⟨ad, e, rfl⟩
                · omega
                · exact HF3.out ad e
              exact ⟨by omega, fun e => by have := HO.out.lt b e; omega⟩
            have HFZ : Hid ((refJ (X.map RA.at) (fun v => valsF X (v : Int)) m (x ++ [z])).length = (F z).length) := by show _ = _; rw [HFF.out]
            rw [HFZ.out]
            have HB4 := Lib.hid (Below.then HB3.out hb4 hz3)
            have HO4 := Lib.hid (HO.out.up HB4.out)
            have hz4 := HB4.out.size
            clear hc4 hm4 hs4 hb4 HJ
            go_wp2_with
              (at_builtin; refine appJ rfl (.tmp 44) (.tmp 54) rfl w1.heap.size u8 ((vals.take k).flatMap F) rfl HO4.out A4 C4 (F z) rfl HS4.out (by have := HLT.out; have := HLEN2.out z; omega) (by omega) ?_
               intro v5 w5 hown5 hg5
               have HO5 := Lib.hid hown5
               have HB5 := Lib.hid (Below.then (Below.then HBK.out HB4.out hzk) (app_grown (B := w1.heap.size) hg5 HO4.out.base (by omega)) (Nat.le_refl _))
               clear hown5 hg5)
            go_roundw
            case rel => exact ⟨k + 1, h2, by go_num, by rw [HT.out]; exact HO5.out, HB5.out⟩
            case measure => simp [intOf]; omega
          · have HT := Lib.hid (List.take_of_length_le (show vals.length ≤ k by omega))
            rw [HT.out] at HO
            obtain ⟨A9, C9, h9, h10, h11, h12⟩ := HO.out.sl (P := fun b => w.heap.size ≤ b ∨ ∃ ad, KA = some ad ∧ ad.block = b) (fun b hb => .inl (by have := HB1.out.size; omega))
            have HFIN := Lib.hid (And.intro h10 (And.intro h11 h12))
            subst h9
            clear h10 h11 h12 HO
            go_wp2
            go_ret
            refine ⟨?_, Below.then HB1.out HBK.out HB1.out.size⟩
            rw [HRJ2.out]
            exact ⟨A9, C9, rfl, HFIN.out.1, HFIN.out.2.1, HFIN.out.2.2⟩
end
section
open Go.RowKit Go.Sort

theorem next_le (n : Nat) : Builtin.nextslicecap (n + 1) n ≤ n + n / 4 + 1000 := by
  unfold Builtin.nextslicecap
  split
  · omega
  · split
    · omega
    · unfold Builtin.growBy
      rw [if_neg (by omega)]
      unfold Builtin.growBy
      rw [if_pos (by omega)]
      omega
theorem next_fit {n bytes : Nat} (h : (n + n / 4 + 1000) * bytes ≤ 281474976710656) : Builtin.nextslicecap (n + 1) n * bytes ≤ 281474976710656 :=
  Nat.le_trans (Nat.mul_le_mul_right _ (next_le n)) h

section
variable {P : Program} {w : World}
theorem run_app1 (base : Nat) (t ty e : TypeId) (i : TypeInfo) (z : Value) (size bytes : Nat) (ht : P.underlying t = some (.slice e)) (hi : P.info? e = some i) (hz : i.zero = some z)
    (hsize : i.size = size) (hby : i.bytes = bytes) (hzs : z.cells.size = size)
    (v : Value) (n : Nat) (xs : List Value) (hown : w.ownsRow base e size v n xs)
    (a : Addr) (c : Nat) (u : List Value) (hl : u.length = size) (hu : ∀ j x, u[j]? = some x → w.cell? (a.add j) = some x) (h1 : ∀ x ∈ u, x.oneCell' = true)
    (h63 : n + 1 ≤ maxLen) (hfit : (n + n / 4 + 1000) * bytes ≤ 281474976710656) (hbase : base ≤ w.heap.size) :
    ∃ v' w', (Builtin.append_ #[t, t] ty #[v, .slice (some a) 1 c]).run P w = .ok v' w' ∧ w'.ownsRow base e size v' (n + 1) (xs ++ u) ∧ w.grownBy w' v.ownBlock ∧ (∀ b, v'.ownBlock = some b → v.ownBlock = some b ∨ b = w.heap.size) := by
  subst hsize hby
  have hm : n + 1 ≤ 9223372036854775807 := by simp only [maxLen] at h63; omega
  have hl1 : u.length = 1 * i.size := by rw [hl, Nat.one_mul]
  have hb1 : 1 * i.bytes ≤ 281474976710656 := Nat.le_trans (Nat.mul_le_mul_right _ (by omega)) hfit
  have hxl : (xs ++ u).length = (n + 1) * i.size := by rw [List.length_append, hown.1, hl1, Nat.add_mul]
  have fresh : ∀ old, ∃ v' w', (Value.slice (some ⟨w.heap.size, 0, none⟩) (n + 1) (grownCap w (n + 1) old e) = v' ∧ w.drew.alloc (.cells (xs.toArray ++ u.toArray ++ Builtin.zeroCells z.cells (grownCap w (n + 1) old e - (n + 1))) e) = w') ∧ w'.ownsRow base e i.size v' (n + 1) (xs ++ u) ∧ (∀ row, w.grownBy w' row) ∧ v'.ownBlock = some w.heap.size := by
    intro old
    have hge := grownCap_ge w (n + 1) old e
    refine ⟨_, _, ⟨rfl, rfl⟩, ⟨hxl, .inr ⟨w.heap.size, grownCap w (n + 1) old e, _, rfl, hbase, heap_alloc_new w.drew _, hge, grownCap_le_maxLen w (n + 1) old e h63, ?_, ?_⟩⟩, fun row => ⟨rfl, rfl, rfl, by simp, fun k hk _ => heap_alloc_old _ _ hk⟩, rfl⟩
    · simp only [Array.size_append, List.size_toArray, size_zeroCells, hzs, hown.1, hl1, ← Nat.add_mul]
      rw [show n + 1 + (grownCap w (n + 1) old e - (n + 1)) = grownCap w (n + 1) old e by omega]
    · simp only [Array.toList_append, List.append_assoc]
      rw [← List.append_assoc, ← hxl]
      exact List.take_left
  rcases hown.2 with ⟨rfl, rfl⟩ | ⟨g, cap, cur, rfl, hbg, hg, hnc, hcm, hcs, htake⟩
  · obtain rfl : xs = [] := List.eq_nil_of_length_eq_zero (by simpa using hown.1)
    have hr := run_append_nil (P := P) w t ty e i z ht hi hz a 1 c u hl1 hu (by omega) (by omega) hb1
    obtain ⟨v', w', ⟨rfl, rfl⟩, h2, h3, h4⟩ := fresh 0
    refine ⟨_, _, ?_, h2, h3 _, fun b hb => .inr (by rw [h4] at hb; injection hb with hb; exact hb.symm)⟩
    rw [hr]
    simp
  · by_cases hroom : n + 1 ≤ cap
    · have hfit2 : n * i.size + u.length ≤ cur.size := by rw [hl1, hcs, ← Nat.add_mul]; exact Nat.mul_le_mul_right _ hroom
      refine ⟨_, _, run_append_room (P := P) w t ty e i ht hi g n cap cur hg a 1 c u hl1 hu h1 hroom hfit2, ⟨hxl, .inr ⟨g, cap, _, rfl, hbg, setRow_heap w g cur _ e _ hg, hroom, hcm, ?_, ?_⟩⟩, ⟨rfl, rfl, rfl, by simp, fun k _ hk => setRow_other w g k _ (fun e => hk (by simp [Value.ownBlock, e]))⟩, fun b hb => .inl hb⟩
      · simp only [List.size_toArray, List.length_append, List.length_take, List.length_drop, Array.length_toList]
        omega
      · rw [htake, ← hxl]
        exact List.take_left
    · obtain rfl : cap = n := by omega
      have hr := run_append_grow (P := P) w t ty e i z ht hi hz ⟨g, 0, none⟩ cap cap xs hown.1 (hown.cells (g := g) rfl) a 1 c u hl1 hu (by omega) (by omega) (next_fit hfit)
      obtain ⟨v', w', ⟨rfl, rfl⟩, h2, h3, h4⟩ := fresh cap
      exact ⟨_, _, hr, h2, h3 _, fun b hb => .inr (by rw [h4] at hb; injection hb with hb; exact hb.symm)⟩
end

theorem atomInfo : (Tryz.prog.info? 36).map (fun i => (i.zero, i.size, i.bytes)) = some (some (.agg #[.slice none 0 0, .int .i64 0, .slice none 0 0]), 3, 56) := by kernel_rfl
theorem ratomInfo : (Tryz.prog.info? 45).map (fun i => (i.zero, i.size, i.bytes)) = some (some (.agg #[.slice none 0 0, .slice none 0 0]), 2, 48) := by kernel_rfl

theorem run1LA {w : World} (ty : TypeId) (base : Nat) (v : Value) (n : Nat) (xs : List Value) (hown : w.ownsRow base 36 3 v n xs)
    (a : Addr) (c : Nat) (u : List Value) (hl : u.length = 3) (hu : ∀ j x, u[j]? = some x → w.cell? (a.add j) = some x) (h1 : ∀ x ∈ u, x.oneCell' = true) (hn : n ≤ 3600000000000) (hbase : base ≤ w.heap.size) :
    ∃ v' w', (Builtin.append_ #[25, 25] ty #[v, .slice (some a) 1 c]).run Tryz.prog w = .ok v' w' ∧ w'.ownsRow base 36 3 v' (n + 1) (xs ++ u) ∧ w.grownBy w' v.ownBlock ∧ (∀ b, v'.ownBlock = some b → v.ownBlock = some b ∨ b = w.heap.size) := by
  obtain ⟨i0, hi0, hz0, hz1, hz2⟩ := info_parts atomInfo
  exact run_app1 (P := Tryz.prog) base 25 ty 36 i0 _ 3 56 Tryz.underlying25 hi0 hz0 hz1 hz2 rfl v n xs hown a c u hl hu h1 (by simp only [maxLen]; omega) (by omega) hbase
theorem app1LA {w : World} {ops : Array Oper} {rest : List Oper} {o : Oper} {a : Act} {Q : Exit → Act → World → Prop} (hgd : o.guard = none) (s x : Operand)
    (ho : o.op = .call { callee := .builtin .append, args := #[s, x], argTypes := #[25, 25] })
    (base : Nat) (v : Value) (n : Nat) (xs : List Value) (hs : a.eval s = v) (hown : w.ownsRow base 36 3 v n xs)
    (g : Nat) (u : List Value) (hx : a.eval x = .slice (some ⟨g, 0, none⟩) 1 1) (hg : Row w g 36 u) (hl : u.length = 3) (h1 : ∀ x ∈ u, x.oneCell' = true)
    (hn : n ≤ 3600000000000) (hbase : base ≤ w.heap.size)
    (h : ∀ v' w', w'.ownsRow base 36 3 v' (n + 1) (xs ++ u) → w.grownBy w' v.ownBlock → (∀ b, v'.ownBlock = some b → v.ownBlock = some b ∨ b = w.heap.size) → wpList Tryz.prog ops Q rest (a.put o.dst v') w') : wpList Tryz.prog ops Q (o :: rest) a w := by
  refine wpList_plain hgd fun K hK => ?_
  obtain ⟨v', w', hrun, k2, k3, k4⟩ := run1LA o.type base v n xs hown ⟨g, 0, none⟩ 1 u hl (fun j x hj => by
    have := hg.cell j
    rw [hj] at this
    rw [Addr.add_lit, Nat.zero_add]
    exact this) h1 hn hbase
  unfold Oper.wp execOp
  simp only [ho, resolve, invoke, builtin, Sem.run_bind, Sem.run_pure, Result.andThen_ok, List.map_toArray, List.map_cons, List.map_nil, hs, hx, hrun]
  exact hK _ _ (h v' w' k2 k3 k4)
theorem run1RA {w : World} (ty : TypeId) (base : Nat) (v : Value) (n : Nat) (xs : List Value) (hown : w.ownsRow base 45 2 v n xs)
    (a : Addr) (c : Nat) (u : List Value) (hl : u.length = 2) (hu : ∀ j x, u[j]? = some x → w.cell? (a.add j) = some x) (h1 : ∀ x ∈ u, x.oneCell' = true) (hn : n ≤ 3600000000000) (hbase : base ≤ w.heap.size) :
    ∃ v' w', (Builtin.append_ #[26, 26] ty #[v, .slice (some a) 1 c]).run Tryz.prog w = .ok v' w' ∧ w'.ownsRow base 45 2 v' (n + 1) (xs ++ u) ∧ w.grownBy w' v.ownBlock ∧ (∀ b, v'.ownBlock = some b → v.ownBlock = some b ∨ b = w.heap.size) := by
  obtain ⟨i0, hi0, hz0, hz1, hz2⟩ := info_parts ratomInfo
  exact run_app1 (P := Tryz.prog) base 26 ty 45 i0 _ 2 48 Tryz.underlying26 hi0 hz0 hz1 hz2 rfl v n xs hown a c u hl hu h1 (by simp only [maxLen]; omega) (by omega) hbase
theorem app1RA {w : World} {ops : Array Oper} {rest : List Oper} {o : Oper} {a : Act} {Q : Exit → Act → World → Prop} (hgd : o.guard = none) (s x : Operand)
    (ho : o.op = .call { callee := .builtin .append, args := #[s, x], argTypes := #[26, 26] })
    (base : Nat) (v : Value) (n : Nat) (xs : List Value) (hs : a.eval s = v) (hown : w.ownsRow base 45 2 v n xs)
    (g : Nat) (u : List Value) (hx : a.eval x = .slice (some ⟨g, 0, none⟩) 1 1) (hg : Row w g 45 u) (hl : u.length = 2) (h1 : ∀ x ∈ u, x.oneCell' = true)
    (hn : n ≤ 3600000000000) (hbase : base ≤ w.heap.size)
    (h : ∀ v' w', w'.ownsRow base 45 2 v' (n + 1) (xs ++ u) → w.grownBy w' v.ownBlock → (∀ b, v'.ownBlock = some b → v.ownBlock = some b ∨ b = w.heap.size) → wpList Tryz.prog ops Q rest (a.put o.dst v') w') : wpList Tryz.prog ops Q (o :: rest) a w := by
  refine wpList_plain hgd fun K hK => ?_
  obtain ⟨v', w', hrun, k2, k3, k4⟩ := run1RA o.type base v n xs hown ⟨g, 0, none⟩ 1 u hl (fun j x hj => by
    have := hg.cell j
    rw [hj] at this
    rw [Addr.add_lit, Nat.zero_add]
    exact this) h1 hn hbase
  unfold Oper.wp execOp
  simp only [ho, resolve, invoke, builtin, Sem.run_bind, Sem.run_pure, Result.andThen_ok, List.map_toArray, List.map_cons, List.map_nil, hs, hx, hrun]
  exact hK _ _ (h v' w' k2 k3 k4)
theorem run1Int {w : World} (ty : TypeId) (base : Nat) (v : Value) (n : Nat) (xs : List Value) (hown : w.ownsRow base 3 1 v n xs)
    (a : Addr) (c : Nat) (u : List Value) (hl : u.length = 1) (hu : ∀ j x, u[j]? = some x → w.cell? (a.add j) = some x) (h1 : ∀ x ∈ u, x.oneCell' = true) (hn : n ≤ 3600000000000) (hbase : base ≤ w.heap.size) :
    ∃ v' w', (Builtin.append_ #[27, 27] ty #[v, .slice (some a) 1 c]).run Tryz.prog w = .ok v' w' ∧ w'.ownsRow base 3 1 v' (n + 1) (xs ++ u) ∧ w.grownBy w' v.ownBlock ∧ (∀ b, v'.ownBlock = some b → v.ownBlock = some b ∨ b = w.heap.size) := by
  obtain ⟨i0, hi0, hz0, hz1, hz2⟩ := info_parts intInfo
  exact run_app1 (P := Tryz.prog) base 27 ty 3 i0 _ 1 8 Tryz.underlying27 hi0 hz0 hz1 hz2 rfl v n xs hown a c u hl hu h1 (by simp only [maxLen]; omega) (by omega) hbase
theorem app1Int {w : World} {ops : Array Oper} {rest : List Oper} {o : Oper} {a : Act} {Q : Exit → Act → World → Prop} (hgd : o.guard = none) (s x : Operand)
    (ho : o.op = .call { callee := .builtin .append, args := #[s, x], argTypes := #[27, 27] })
    (base : Nat) (v : Value) (n : Nat) (xs : List Value) (hs : a.eval s = v) (hown : w.ownsRow base 3 1 v n xs)
    (g : Nat) (u : List Value) (hx : a.eval x = .slice (some ⟨g, 0, none⟩) 1 1) (hg : Row w g 3 u) (hl : u.length = 1) (h1 : ∀ x ∈ u, x.oneCell' = true)
    (hn : n ≤ 3600000000000) (hbase : base ≤ w.heap.size)
    (h : ∀ v' w', w'.ownsRow base 3 1 v' (n + 1) (xs ++ u) → w.grownBy w' v.ownBlock → (∀ b, v'.ownBlock = some b → v.ownBlock = some b ∨ b = w.heap.size) → wpList Tryz.prog ops Q rest (a.put o.dst v') w') : wpList Tryz.prog ops Q (o :: rest) a w := by
  refine wpList_plain hgd fun K hK => ?_
  obtain ⟨v', w', hrun, k2, k3, k4⟩ := run1Int o.type base v n xs hown ⟨g, 0, none⟩ 1 u hl (fun j x hj => by
    have := hg.cell j
    rw [hj] at this
    rw [Addr.add_lit, Nat.zero_add]
    exact this) h1 hn hbase
  unfold Oper.wp execOp
  simp only [ho, resolve, invoke, builtin, Sem.run_bind, Sem.run_pure, Result.andThen_ok, List.map_toArray, List.map_cons, List.map_nil, hs, hx, hrun]
  exact hK _ _ (h v' w' k2 k3 k4)
def Stab (F : Nat → Prop) (w : World) (S : World → Prop) : Prop := ∀ w'' : World, (∀ p : Addr, p.block < w.heap.size → ¬ F p.block → w''.cell? p = w.cell? p) → S w''
section
variable {F F' : Nat → Prop} {w w' : World} {S S' : World → Prop}
theorem Stab.now (h : Stab F w S) : S w := h w fun _ _ _ => rfl
theorem Stab.and (h : Stab F w S) (h' : Stab F w S') : Stab F w fun w'' => S w'' ∧ S' w'' := fun w'' hk => ⟨h w'' hk, h' w'' hk⟩
theorem Stab.imp (h : Stab F w S) (hS : ∀ w'', S w'' → S' w'') : Stab F w S' := fun w'' hk => hS _ (h w'' hk)
theorem Stab.step (h : Stab F w S) (hk : ∀ p : Addr, p.block < w.heap.size → ¬ F p.block → w'.cell? p = w.cell? p) (hz : w.heap.size ≤ w'.heap.size) (hF : ∀ b, b < w.heap.size → F' b → F b) : Stab F' w' S := fun w'' hk' =>
  h w'' fun p hp hn => (hk' p (Nat.lt_of_lt_of_le hp hz) fun hf => hn (hF _ hp hf)).trans (hk p hp hn)
theorem Stab.up (h : Stab F w S) (hb : Below w.heap.size w w') : Stab F w' S := h.step (fun _ hp _ => hb.cell hp) hb.size fun _ _ hf => hf
theorem Stab.grow {row : Option Nat} (h : Stab F w S) (hg : w.grownBy w' row) (hr : ∀ b, row = some b → F b) (hF : ∀ b, b < w.heap.size → F' b → F b) : Stab F' w' S :=
  h.step (fun _p hp hn => grown_cell hg hp fun e => hn (hr _ e.symm)) hg.size hF
theorem Stab.of_from {lo : Nat} (hF : ∀ b, lo ≤ b → ¬ F b) (h : ∀ w'' : World, (∀ p : Addr, lo ≤ p.block → p.block < w.heap.size → w''.cell? p = w.cell? p) → S w'') : Stab F w S := fun w'' hk => h w'' fun p h1 h2 => hk p h2 (hF _ h1)
end
end
section
open Go.RowKit Go.Sort

set_option maxHeartbeats 4000000 in
theorem l7RowsJ_any (XA : Option Addr) (XC : Nat) (X : List RL.R) (w : World) (hX : SlRs w.heap.size w XA X) (hXl : X.length ≤ 1000000) (hXo : RsOk X) :
    Calls Tryz.prog 25 #[.slice XA X.length XC] w fun e w' => ∃ v, e = .returned v ∧ OwnJ w' w.heap.size v X ∧ Below w.heap.size w w' := by
  have HX := Lib.hid hX
  have HXO := Lib.hid hXo
  clear hX hXo
  go_enter Tryz.func25, Tryz.ntmps25
  go_wp2
  go_loopw [3, 8] (fun v i wr => ∃ k : Nat, k ≤ X.length ∧ i = .int .i64 k ∧ OwnJ wr w.heap.size v (X.take k) ∧ Below w.heap.size w wr) (fun _ i _ => X.length - (intOf i).toNat)
  case atStart => exact ⟨0, Nat.zero_le _, rfl, OwnJ.nil _ _, Below.refl _ _⟩
  case round =>
    obtain ⟨k, hka, rfl, hown, hbel⟩ := hrel
    have HO := Lib.hid hown
    have HB := Lib.hid hbel
    have hzz := hbel.size
    have hlt := List.length_take_le k X
    clear hown
    by_cases h1 : k < X.length
    · obtain ⟨b, o, A1, C1, rfl, hb, c1, -, -, s1⟩ := slRs_at HX.out h1
      have d1 := (hbel.cell (p := ⟨b, o + k, none⟩) hb).trans c1
      have HT := Lib.hid (List.take_succ_eq_append_getElem h1)
      have HC := Lib.hid (l7Row_any A1 C1 X[k] wr ((s1.below hbel (Nat.le_refl _)).more hzz) (HXO.out.at_ h1).1)
      clear c1 s1 hbel
      generalize X[k] = x at d1 HT HC
      go_wp2_with fail
      refine HC.out.mono ?_
      rintro e w1 ⟨v1, rfl, hown1, hb1⟩
      obtain ⟨-, A2, C2, rfl, hc2, hm2, hs2, hfr⟩ := SlR.of_own hown1
      have hz1 := hb1.size
      have HSRC := Lib.hid (boxJ0 (T := 103) (P := fun b => w.heap.size ≤ b ∧ u3.ownBlock ≠ some b) hs2 hc2 hm2 (fun _ ad e => ⟨Nat.le_trans hzz (hfr ad e), fun e2 => by have := HO.out.lt _ e2; have := hfr ad e; omega⟩) ⟨by omega, fun e2 => by have := HO.out.lt _ e2; omega⟩)
      have HO1 := Lib.hid ((HO.out.up hb1).up ((Below.refl _ _).alloc (Nat.le_refl _) (.cells #[.slice A2 x.length C2] 103)))
      have HB1 := Lib.hid ((Below.then HB.out hb1 hzz).alloc (by omega) (.cells #[.slice A2 x.length C2] 103))
      clear hown1 hb1 hs2 hfr d1 HC hc2 hm2
      go_wp2_with (at_builtin; refine appJ rfl (.tmp 12) (.tmp 15) rfl w.heap.size u3 (X.take k) rfl HO1.out (some ⟨w1.heap.size, 0, none⟩) 1 [x] rfl HSRC.out (by simp; omega) (by simp; omega) ?_
                   intro v' w2 hown2 hg2
                   have HO2 := Lib.hid hown2
                   have HB2 := Lib.hid (HB1.out.grown hg2 (by simp; omega) HO1.out.base)
                   clear hown2 hg2)
      go_roundw
      case rel => exact ⟨k + 1, by omega, by go_num, by rw [HT.out]; exact HO2.out, HB2.out⟩
      case measure => simp [intOf]; omega
    · have HT := Lib.hid (List.take_of_length_le (show X.length ≤ k by omega))
      rw [HT.out] at HO
      go_wp2
      go_ret
      exact ⟨_, rfl, HO.out, hbel⟩

structure LA where
  v : Nat
  R : List (List Nat)
  b : Nat
def varsK (v k : Nat) : List Nat := (List.range k).filter fun j => v / 2 ^ j % 2 == 1
theorem varsK_succ (v k : Nat) : varsK v (k + 1) = if v / 2 ^ k % 2 = 1 then varsK v k ++ [k] else varsK v k := by
  unfold varsK
  rw [List.range_succ, List.filter_append]
  by_cases h : v / 2 ^ k % 2 = 1
  · rw [if_pos h]; simp [h]
  · rw [if_neg h]; simp [h]
theorem varsK_len (v k : Nat) : (varsK v k).length ≤ k := by
  have := List.length_filter_le (fun j => v / 2 ^ j % 2 == 1) (List.range k)
  rw [List.length_range] at this
  exact this
def LA.ks (a : LA) : List Nat := varsK a.v 8
def LA.d (a : LA) : Nat := a.ks.length
def ints (l : List Nat) : List Int := l.map fun k : Nat => (k : Int)
def badV (b : Nat) (l : List Int) : List Int := if b = 0 then l else if b = 1 then l ++ [9] else if b = 2 then l ++ [0] else -1 :: l
def valI (x : Nat) : RL.V := ⟨1, (x % 4 : Nat), ⟨#[]⟩⟩
def rowI (d : Nat) (t : List Nat) : RL.R := (List.range d).map fun k => valI (t.getD k 0)
theorem rowI_len (d : Nat) (t : List Nat) : (rowI d t).length = d := by simp [rowI]
theorem rowI_succ (k : Nat) (t : List Nat) : rowI (k + 1) t = rowI k t ++ [valI (t.getD k 0)] := by unfold rowI; rw [List.range_succ, List.map_append]; rfl
def LA.rows (a : LA) : List RL.R := RL.ofF (a.R.map (rowI a.d))
def LA.ra (a : LA) : RA := ⟨badV a.b (ints a.ks), (a.d : Nat), a.rows⟩
def LA.Ok (a : LA) : Prop := a.d ≤ 4 ∧ a.R.length ≤ 12
theorem LA.d_le (a : LA) : a.d ≤ 8 := varsK_len a.v 8
theorem badV_len (b : Nat) (l : List Int) : (badV b l).length ≤ l.length + 1 := by
  unfold badV
  split
  · omega
  · split
    · simp
    · split <;> simp

def AtsL (B : Nat) (w : World) (A : Option Addr) (l : List LA) : Prop :=
  l ≠ [] → ∃ b o, A = some ⟨b, o, none⟩ ∧ b < B ∧ ∀ i (h : i < l.length), ∃ RA RC, w.cell? ⟨b, o + i * 3, none⟩ = some (.int .u8 (l[i].v : Nat)) ∧ w.cell? ⟨b, o + i * 3 + 1, none⟩ = some (.slice RA l[i].R.length RC) ∧ w.cell? ⟨b, o + i * 3 + 2, none⟩ = some (.int .u8 (l[i].b : Nat)) ∧ SlA 4 B w RA l[i].R
def LBytes (l : List LA) : Prop := ∀ a ∈ l, a.v < 256 ∧ a.b < 256 ∧ Bytes a.R
theorem atsL_at {B : Nat} {w : World} {A : Option Addr} {l : List LA} (h : AtsL B w A l) {i : Nat} (hi : i < l.length) : ∃ b o RA RC, A = some ⟨b, o, none⟩ ∧ b < B ∧ w.cell? ⟨b, o + i * 3, none⟩ = some (.int .u8 (l[i].v : Nat)) ∧ w.cell? ⟨b, o + i * 3 + 1, none⟩ = some (.slice RA l[i].R.length RC) ∧ w.cell? ⟨b, o + i * 3 + 2, none⟩ = some (.int .u8 (l[i].b : Nat)) ∧ SlA 4 B w RA l[i].R := by
  obtain ⟨b, o, e, hlt, hc⟩ := h (by intro h0; subst h0; simp at hi)
  obtain ⟨RA, RC, h⟩ := hc i hi
  exact ⟨b, o, RA, RC, e, hlt, h⟩

structure HM where
  VA : Option Addr
  VC : Nat
  PA : Option Addr
  PC : Nat
  QA : Option Addr
  QC : Nat
def outC (z : RA × HM) : List Value := [.slice z.2.VA z.1.vs.length z.2.VC, .int .i64 z.1.ar, .slice z.2.PA z.1.P.length z.2.PC]
def refC (z : RA × HM) : List Value := [.slice z.2.VA z.1.vs.length z.2.VC, .slice z.2.QA z.1.P.length z.2.QC]
def arC (z : RA × HM) : List Value := [.int .i64 z.1.ar]
structure HmOk (z : RA × HM) : Prop where
  v1 : z.1.vs.length ≤ z.2.VC
  v2 : z.2.VC ≤ 9223372036854775807
  p1 : z.1.P.length ≤ z.2.PC
  p2 : z.2.PC ≤ 9223372036854775807
  q1 : z.1.P.length ≤ z.2.QC
  q2 : z.2.QC ≤ 9223372036854775807
def ElR (B : Nat) (z : RA × HM) (w : World) : Prop := SlI .i64 B w z.2.VA z.1.vs ∧ SlRs B w z.2.PA z.1.P ∧ SlRs B w z.2.QA z.1.P
theorem ElR.more {B B' : Nat} {z : RA × HM} {w : World} (h : ElR B z w) (hB : B ≤ B') : ElR B' z w := ⟨h.1.more hB, h.2.1.more hB, h.2.2.more hB⟩
theorem flat_get {α : Type} (f : α → List Value) (k : Nat) (hf : ∀ z, (f z).length = k) : ∀ (Z : List α) (i j : Nat) (hi : i < Z.length), j < k → (Z.flatMap f)[i * k + j]? = (f Z[i])[j]?
  | [], i, j, hi, _ => absurd hi (by simp)
  | z :: Z, 0, j, _, hj => by
    rw [List.flatMap_cons, Nat.zero_mul, Nat.zero_add, List.getElem?_append_left (by rw [hf]; exact hj)]
    rfl
  | z :: Z, i + 1, j, hi, hj => by
    rw [List.flatMap_cons, List.getElem?_append_right (by rw [hf, Nat.succ_mul]; omega), hf, show (i + 1) * k + j - k = i * k + j by rw [Nat.succ_mul]; omega]
    simpa using flat_get f k hf Z i j (by simpa using hi) hj

structure MadeI (base : Nat) (w : World) (Z : List (RA × HM)) (vo vm va : Value) : Prop where
  out : w.ownsRow base 36 3 vo Z.length (Z.flatMap outC)
  ref : w.ownsRow base 45 2 vm Z.length (Z.flatMap refC)
  ar : w.ownsRow base 3 1 va Z.length (Z.flatMap arC)
  om : ∀ b, vo.ownBlock = some b → vm.ownBlock ≠ some b
  oa : ∀ b, vo.ownBlock = some b → va.ownBlock ≠ some b
  ma : ∀ b, vm.ownBlock = some b → va.ownBlock ≠ some b
  el : Stab (fun b => vo.ownBlock = some b ∨ vm.ownBlock = some b ∨ va.ownBlock = some b) w fun w'' => ∀ z ∈ Z, ElR w.heap.size z w''
  ok : ∀ z ∈ Z, HmOk z
theorem MadeI.nil (base : Nat) (w : World) : MadeI base w [] (.slice none 0 0) (.slice none 0 0) (.slice none 0 0) :=
  ⟨own_nil _ _ _ _, own_nil _ _ _ _, own_nil _ _ _ _, fun _ h => (by cases h), fun _ h => (by cases h), fun _ h => (by cases h), fun _ _ z hz => (by simp at hz), fun z hz => (by simp at hz)⟩
theorem own_slice {w : World} {base : Nat} {e : TypeId} {size : Nat} {v : Value} {n : Nat} {xs : List Value} (h : w.ownsRow base e size v n xs) (_hs : 0 < size) : ∃ A C, v = .slice A n C ∧ n ≤ C ∧ C ≤ 9223372036854775807 ∧ (xs ≠ [] → ∃ b, A = some ⟨b, 0, none⟩ ∧ b < w.heap.size ∧ ∀ (j : Nat) u, xs[j]? = some u → w.cell? ⟨b, j, none⟩ = some u) := by
  rcases h.2 with ⟨h1, h0⟩ | ⟨g, cap, cur, h1, _, _, h5, hm, _⟩
  · subst h1 h0
    refine ⟨none, 0, rfl, Nat.le_refl _, by omega, fun hx => absurd (List.eq_nil_of_length_eq_zero (by rw [h.1, Nat.zero_mul])) hx⟩
  · subst h1
    refine ⟨some ⟨g, 0, none⟩, cap, rfl, h5, by unfold maxLen at hm; omega, fun _ => ⟨g, rfl, own_lt h g rfl, fun j u hu => ?_⟩⟩
    have := h.cells (g := g) rfl j u hu
    rwa [Addr.add_lit, Nat.zero_add] at this
theorem MadeI.fin {base : Nat} {w : World} {Z : List (RA × HM)} {vo vm va : Value} (h : MadeI base w Z vo vm va) :
    ∃ A1 C1 A2 C2 A3 C3, vo = .slice A1 Z.length C1 ∧ vm = .slice A2 Z.length C2 ∧ va = .slice A3 Z.length C3 ∧ Z.length ≤ C1 ∧ C1 ≤ 9223372036854775807 ∧ Z.length ≤ C2 ∧ C2 ≤ 9223372036854775807 ∧ Z.length ≤ C3 ∧ C3 ≤ 9223372036854775807 ∧ AtsM w.heap.size w A1 (Z.map Prod.fst) ∧ AtsR w.heap.size w A2 (Z.map Prod.fst) ∧ SlI .i64 w.heap.size w A3 (Z.map fun z => z.1.ar) := by
  obtain ⟨A1, C1, e1, c1, d1, f1⟩ := own_slice h.out (by decide)
  obtain ⟨A2, C2, e2, c2, d2, f2⟩ := own_slice h.ref (by decide)
  obtain ⟨A3, C3, e3, c3, d3, f3⟩ := own_slice h.ar (by decide)
  have hel := h.el.now
  have hne : ∀ (f : RA × HM → List Value) (k : Nat), (∀ z, (f z).length = k + 1) → Z ≠ [] → Z.flatMap f ≠ [] := fun f k hf hn h0 => by
    obtain ⟨z, t, rfl⟩ := List.exists_cons_of_ne_nil hn
    rw [List.flatMap_cons] at h0
    have := List.append_eq_nil_iff.1 h0
    have h2 := hf z
    rw [this.1] at h2
    simp at h2
  refine ⟨A1, C1, A2, C2, A3, C3, e1, e2, e3, c1, d1, c2, d2, c3, d3, fun hn => ?_, fun hn => ?_, fun hn => ?_⟩
  · have hz : Z ≠ [] := by intro e; subst e; exact hn rfl
    obtain ⟨b, rfl, hb, hc⟩ := f1 (hne outC 2 (fun _ => rfl) hz)
    refine ⟨b, 0, rfl, hb, fun i hi => ?_⟩
    rw [List.length_map] at hi
    have hm : Z[i] ∈ Z := List.getElem_mem hi
    have ho := h.ok _ hm
    have he := hel _ hm
    have g := fun j hj => flat_get outC 3 (fun _ => rfl) Z i j hi hj
    rw [List.getElem_map]
    exact ⟨_, _, _, _, by rw [Nat.zero_add]; exact hc _ _ (g 0 (by omega)), by rw [Nat.zero_add]; exact hc _ _ (g 1 (by omega)), by rw [Nat.zero_add]; exact hc _ _ (g 2 (by omega)), ho.v1, ho.v2, ho.p1, ho.p2, he.1, he.2.1⟩
  · have hz : Z ≠ [] := by intro e; subst e; exact hn rfl
    obtain ⟨b, rfl, hb, hc⟩ := f2 (hne refC 1 (fun _ => rfl) hz)
    refine ⟨b, 0, rfl, hb, fun i hi => ?_⟩
    rw [List.length_map] at hi
    have hm : Z[i] ∈ Z := List.getElem_mem hi
    have ho := h.ok _ hm
    have he := hel _ hm
    have g := fun j hj => flat_get refC 2 (fun _ => rfl) Z i j hi hj
    rw [List.getElem_map]
    exact ⟨_, _, _, _, by rw [Nat.zero_add]; exact hc _ _ (g 0 (by omega)), by rw [Nat.zero_add]; exact hc _ _ (g 1 (by omega)), ho.v1, ho.v2, ho.q1, ho.q2, he.1, he.2.2⟩
  · have hz : Z ≠ [] := by intro e; subst e; exact hn rfl
    obtain ⟨b, rfl, hb, hc⟩ := f3 (hne arC 0 (fun _ => rfl) hz)
    refine ⟨b, 0, rfl, hb, fun i u hu => ?_⟩
    rw [Nat.zero_add]
    refine hc _ _ ?_
    have hl : i < Z.length := by
      have := (List.getElem?_eq_some_iff.1 hu).1
      simpa using this
    have g := flat_get arC 1 (fun _ => rfl) Z i 0 hl (by omega)
    rw [Nat.mul_one, Nat.add_zero] at g
    rw [g]
    rw [List.getElem?_map, List.getElem?_map, List.getElem?_eq_getElem hl] at hu
    exact hu
end
section
open Go.RowKit Go.Sort

theorem asc_nat (b : Nat) : ∀ (l : List Nat) (a : Nat), l.Pairwise (· < ·) → (∀ x ∈ l, a ≤ x ∧ x < b) → l.length ≤ b - a
  | [], _, _, _ => Nat.zero_le _
  | x :: t, a, h, hx => by
    obtain ⟨h1, h2⟩ := List.pairwise_cons.1 h
    have h3 := hx x List.mem_cons_self
    have := asc_nat b t (x + 1) h2 fun y hy => ⟨h1 y hy, (hx y (List.mem_cons_of_mem _ hy)).2⟩
    rw [List.length_cons]
    omega
theorem cmpV_valI {x y : Nat} : RL.cmpV (valI x) (valI y) < 0 ↔ x % 4 < y % 4 := by
  by_cases h : x % 4 = y % 4
  · rw [show valI x = valI y by unfold valI; rw [h], RL.tot_cmpV.self]
    omega
  · have h2 : ((x % 4 : Nat) : Int) ≠ ((y % 4 : Nat) : Int) := fun e => h (by omega)
    rw [RL.cmpV_int (a := valI x) (b := valI y) rfl h2]
    show RL.cmpI ((x % 4 : Nat) : Int) ((y % 4 : Nat) : Int) < 0 ↔ _
    unfold RL.cmpI
    split
    · omega
    · split <;> omega
def IsI (c : RL.V) : Prop := ∃ x, c = valI x
theorem asc4 {l : RL.R} (h : l.Pairwise fun a b => RL.cmpV a b < 0) (hI : ∀ c ∈ l, IsI c) : l.length ≤ 4 := by
  have e : ∀ c ∈ l, valI c.int.toNat = c ∧ c.int.toNat % 4 = c.int.toNat ∧ c.int.toNat < 4 := fun c hc => by
    obtain ⟨x, rfl⟩ := hI c hc
    have e1 : (valI x).int.toNat = x % 4 := rfl
    rw [e1]
    refine ⟨?_, by omega, by omega⟩
    unfold valI
    rw [Nat.mod_mod]
  have h2 : (l.map fun c => c.int.toNat).Pairwise (· < ·) := by
    refine List.pairwise_map.2 (h.imp_of_mem fun {a b} ha hb hab => ?_)
    obtain ⟨a1, a2, a3⟩ := e a ha
    obtain ⟨b1, b2, b3⟩ := e b hb
    rw [← a1, ← b1, cmpV_valI, a2, b2] at hab
    exact hab
  have h3 := asc_nat 4 (l.map fun c => c.int.toNat) 0 h2 fun x hx => by
    obtain ⟨c, hc, rfl⟩ := List.mem_map.1 hx
    exact ⟨Nat.zero_le _, (e c hc).2.2⟩
  rw [List.length_map] at h3
  exact h3

structure Small (a : RA) : Prop where
  ss : RL.SS a.P
  len : ∀ r ∈ a.P, (r.length : Int) = a.ar
  ar : a.ar ≤ 1000
  many : a.P.length ≤ 60000
  vl : a.vs.length ≤ 1000
  I : ∀ r ∈ a.P, ∀ c ∈ r, IsI c
theorem IsI.str {c : RL.V} (h : IsI c) : c.str.size = 0 := by obtain ⟨x, rfl⟩ := h; rfl
theorem Small.rsOk {a : RA} (h : Small a) : RsOk a.P := fun r hr => ⟨by have := h.len r hr; have := h.ar; omega, fun c hc => by rw [(h.I r hr c hc).str]; exact Nat.zero_le _⟩
theorem Small.kids {a : RA} (h : Small a) (hd : ∀ r ∈ a.P, r.length = a.at.d) (q : RL.R) : (RL.kids a.at.d a.at.P q).length ≤ 4 := by
  rcases Nat.lt_or_ge q.length a.at.d with hq | hq
  · refine asc4 (RL.kids_asc hd q) fun c hc => ?_
    obtain ⟨y, hy, e⟩ := (RL.mem_kids hd hq c).1 hc
    refine h.I y hy c (List.mem_of_mem_take (i := q.length + 1) ?_)
    rw [e]; simp
  · rw [RL.kids_out hq]; exact Nat.zero_le _
theorem Small.hd {n : Int} {a : RA} (h : Small a) (he : errAt n a = 0) : ∀ r ∈ a.P, r.length = a.at.d := fun r hr => by
  have h3 := (errAt_zero he).2.2
  have h4 := h.len r hr
  show r.length = (a.vs.map Int.toNat).length
  rw [List.length_map]
  omega
theorem Small.ref {n : Int} {a : RA} (h : Small a) (he : errAt n a = 0) : RefOk a := ⟨h.vl, h.many, h.rsOk, fun r hr => by have := h.hd he r hr; rw [this]; show (a.vs.map Int.toNat).length = _; rw [List.length_map], fun v hv => ((errAt_zero he).2.1 v hv).1⟩
theorem Small.rel {n : Int} {a : RA} (h : Small a) (he : errAt n a = 0) : RelOk 4 a := ⟨h.ss, h.len, h.rsOk, h.many, h.kids (h.hd he)⟩
theorem valsF_I {X : List RA} {n : Int} (hX : ∀ a ∈ X, Small a) (he : ∀ a ∈ X, errAt n a = 0) (v : Int) : ∀ c ∈ valsF X v, IsI c := fun c hc => by
  unfold valsF at hc
  split at hc
  · rename_i a k hcol
    obtain ⟨ha, hk⟩ : a ∈ X ∧ k < a.vs.length := by
      unfold colF at hcol
      obtain ⟨a', ha', h1⟩ := List.exists_of_findSome?_eq_some hcol
      obtain ⟨k', hk', e⟩ := Option.map_eq_some_iff.1 h1
      injection e with e1 e2
      subst e1 e2
      exact ⟨ha', (List.findIdx?_eq_some_iff_getElem.1 hk').1⟩
    obtain ⟨r, hr, rfl⟩ := List.mem_map.1 hc
    obtain ⟨y, hy, rfl⟩ := List.mem_map.1 ((RL.mem_ofF _ _).1 hr)
    have hl := (hX a ha).hd (he a ha) y hy
    have hl2 : k < y.length := by rw [hl]; show k < (a.vs.map Int.toNat).length; rw [List.length_map]; exact hk
    show IsI (y.getD (k : Int).toNat zV)
    rw [Int.toNat_natCast, List.getD_eq_getElem?_getD, List.getElem?_eq_getElem hl2]
    exact (hX a ha).I y hy _ (List.getElem_mem hl2)
  · simp at hc
theorem valsF_four {X : List RA} {n : Int} (hX : ∀ a ∈ X, Small a) (he : ∀ a ∈ X, errAt n a = 0) (v : Int) : (valsF X v).length ≤ 4 := asc4 (valsF_asc X v) (valsF_I hX he v)

structure Good0 (m : Nat) (X : List RA) : Prop where
  le : m ≤ 32
  many : X.length ≤ 32
  sm : ∀ a ∈ X, Small a
  ok : ∀ a ∈ X, errAt (m : Int) a = 0
  cov : ∀ v : Nat, v < m → ∃ a ∈ X, (v : Int) ∈ a.vs
section
variable {m : Nat} {X Y : List RA}
theorem Good0.at (h : Good0 m X) : ∀ a ∈ X, a.at.Ok m := fun a ha => (raOk_of (h.ok a ha) ((h.sm a ha).rel (h.ok a ha))).at_
theorem Good0.ats (h : Good0 m X) : ∀ a ∈ X.map RA.at, a.Ok m := fun a ha => by obtain ⟨r, hr, rfl⟩ := List.mem_map.1 ha; exact h.at r hr
theorem Good0.use (h : Good0 m X) : ∀ v, v < m → ∃ a ∈ X.map RA.at, v ∈ a.vs := fun v hv => by
  obtain ⟨a, ha, h1⟩ := used_of h.cov v hv
  exact ⟨a.at, List.mem_map.2 ⟨a, ha, rfl⟩, h1⟩
theorem Good0.mem (h : Good0 m X) (y : RL.R) : y ∈ joinF m (X.map RA.at) ↔ y.length = m ∧ ∀ a ∈ X, satA a.at y := by
  rw [mem_joinF h.ats h.use]
  constructor
  · exact fun ⟨h1, h2⟩ => ⟨h1, fun a ha => h2 _ (List.mem_map.2 ⟨a, ha, rfl⟩)⟩
  · exact fun ⟨h1, h2⟩ => ⟨h1, fun a ha => by obtain ⟨r, hr, rfl⟩ := List.mem_map.1 ha; exact h2 r hr⟩
theorem Good0.joinSS (h : Good0 m X) : RL.SS (joinF m (X.map RA.at)) := joinF_ss h.ats h.use
theorem Good0.refJ (h : Good0 m X) : refJ (X.map RA.at) (fun v => valsF X (v : Int)) m [] = joinF m (X.map RA.at) := refJ_join h.at h.cov
theorem Good0.I (h : Good0 m X) : ∀ y ∈ joinF m (X.map RA.at), ∀ c ∈ y, IsI c := fun y hy c hc => by
  obtain ⟨h1, h2⟩ := (h.mem y).1 hy
  obtain ⟨i, hi, rfl⟩ := List.getElem_of_mem hc
  obtain ⟨a, ha, hv⟩ := h.cov i (by omega)
  have hs : a.at.vs.map (dv y) ∈ a.P := h2 a ha
  refine (h.sm a ha).I _ hs _ (List.mem_map.2 ⟨i, List.mem_map.2 ⟨_, hv, by simp⟩, ?_⟩)
  unfold dv
  rw [List.getD_eq_getElem?_getD, List.getElem?_eq_getElem hi]
  rfl
end
theorem LA.small {a : LA} (h : a.Ok) : Small a.ra where
  ss := RL.SS.of _
  len r hr := by
    obtain ⟨t, _, rfl⟩ := List.mem_map.1 ((RL.mem_ofF _ _).1 hr)
    rw [rowI_len]
    rfl
  ar := by have := h.1; show ((a.d : Nat) : Int) ≤ 1000; omega
  many := by
    refine Nat.le_trans (RL.ofF_length_le _) ?_
    rw [List.length_map]
    have := h.2
    omega
  vl := by
    have h1 := badV_len a.b (ints a.ks)
    have h2 : (ints a.ks).length = a.d := by unfold ints; rw [List.length_map]; rfl
    have := a.d_le
    show (badV a.b (ints a.ks)).length ≤ 1000
    omega
  I r hr c hc := by
    obtain ⟨t, _, rfl⟩ := List.mem_map.1 ((RL.mem_ofF _ _).1 hr)
    obtain ⟨k, _, rfl⟩ := List.mem_map.1 hc
    exact ⟨_, rfl⟩
theorem LA.smalls {l : List LA} (h : ∀ a ∈ l, a.Ok) : ∀ a ∈ l.map LA.ra, Small a := fun a ha => by
  obtain ⟨x, hx, rfl⟩ := List.mem_map.1 ha
  exact LA.small (h x hx)
end
section
open Go.RowKit Go.Sort Go.ChangeMaps Go.WideShapes

structure Gd (a : At) : Prop where
  asc : a.vs.Pairwise (· < ·)
  lt : ∀ v ∈ a.vs, v < 32
  len : ∀ r ∈ a.P, r.length = a.vs.length
  ss : RL.SS a.P
  I : ∀ r ∈ a.P, ∀ c ∈ r, IsI c
  many : a.P.length ≤ 60000
theorem IsI.small {c : RL.V} (h : IsI c) : SmallV c := by
  obtain ⟨x, rfl⟩ := h
  exact ⟨rfl, ⟨x % 4, by omega, rfl⟩, rfl⟩
theorem IsI.vld {c : RL.V} (h : IsI c) : RL.validV c = true := by obtain ⟨x, rfl⟩ := h; rfl
theorem Gd.vl {a : At} (h : Gd a) : a.vs.length ≤ 32 := by have := asc_nat 32 a.vs 0 h.asc fun x hx => ⟨Nat.zero_le _, h.lt x hx⟩; omega
theorem Gd.rok {a : At} (h : Gd a) {r : RL.R} (hr : r ∈ a.P) : ROk r := ⟨by have := h.len r hr; have := h.vl; omega, fun c hc => by rw [(h.I r hr c hc).str]; exact Nat.zero_le _⟩
theorem Gd.rsOk {a : At} (h : Gd a) : RsOk a.P := fun _ hr => h.rok hr
theorem Gd.nodup {a : At} (h : Gd a) : a.vs.Nodup := h.asc.imp fun h e => by omega
theorem Gd.err {a : At} (h : Gd a) {X : List RL.R} (hX : ∀ x ∈ X, x ∈ a.P) : errF (a.vs.length : Nat) X = 0 := errF_zero.2 fun x hx => by
  have hx := hX x hx
  unfold wrongF
  rw [if_neg (by have := h.len x hx; simp [this]), if_pos (List.all_eq_true.2 fun v hv => (h.I x hx v hv).vld)]

def AtV (w : World) (v : Value) (a : At) : Prop := ∃ VA VC PA PC, v = .agg #[.slice VA a.vs.length VC, .int .i64 (a.vs.length : Nat), .slice PA a.P.length PC] ∧ a.vs.length ≤ VC ∧ VC ≤ 9223372036854775807 ∧ a.P.length ≤ PC ∧ PC ≤ 9223372036854775807 ∧ SlI .i64 w.heap.size w VA (a.vs.map Int.ofNat) ∧ SlRs w.heap.size w PA a.P
theorem AtV.up {w w' : World} {v : Value} {a : At} (h : AtV w v a) (hb : Below w.heap.size w w') : AtV w' v a := by
  obtain ⟨VA, VC, PA, PC, e, c1, c2, c3, c4, h1, h2⟩ := h
  exact ⟨VA, VC, PA, PC, e, c1, c2, c3, c4, (Sl.below h1 hb (Nat.le_refl _)).more hb.size, h2.upB hb⟩

def AtP (P : Nat → Prop) (B : Nat) (w : World) (v : Value) (a : At) : Prop := ∃ VA VC PA PC, v = .agg #[.slice VA a.vs.length VC, .int .i64 (a.vs.length : Nat), .slice PA a.P.length PC] ∧ a.vs.length ≤ VC ∧ VC ≤ 9223372036854775807 ∧ a.P.length ≤ PC ∧ PC ≤ 9223372036854775807 ∧
  ∀ W : World, (∀ p : Addr, p.block < B → P p.block → W.cell? p = w.cell? p) → SlI .i64 B W VA (a.vs.map Int.ofNat) ∧ SlRs B W PA a.P
theorem AtP.v {P : Nat → Prop} {w : World} {v : Value} {a : At} (h : AtP P w.heap.size w v a) : AtV w v a := by
  obtain ⟨VA, VC, PA, PC, e, c1, c2, c3, c4, h1⟩ := h
  exact ⟨VA, VC, PA, PC, e, c1, c2, c3, c4, h1 w fun _ _ _ => rfl⟩
theorem AtP.keep {P P' : Nat → Prop} {B B' : Nat} {w w' : World} {v : Value} {a : At} (h : AtP P B w v a) (hk : ∀ p : Addr, p.block < B → P p.block → w'.cell? p = w.cell? p) (hB : B ≤ B') (hP : ∀ b, b < B → P b → P' b) : AtP P' B' w' v a := by
  obtain ⟨VA, VC, PA, PC, e, c1, c2, c3, c4, h1⟩ := h
  refine ⟨VA, VC, PA, PC, e, c1, c2, c3, c4, fun W hag => ?_⟩
  obtain ⟨g1, g2⟩ := h1 W fun p hp hPp => (hag p (Nat.lt_of_lt_of_le hp hB) (hP _ hp hPp)).trans (hk p hp hPp)
  exact ⟨Sl.more g1 hB, g2.more hB⟩

def colsI (us vs : List Nat) : List Int := (colsF us vs).map Int.ofNat
def keyF (us vs : List Nat) (x : RL.R) : List UInt8 := kyB (projF x (colsI us vs))
theorem colsF_lt (us vs : List Nat) : ∀ c ∈ colsF us vs, c < us.length := fun c hc => by unfold colsF at hc; exact List.mem_range.1 (List.mem_filter.1 hc).1
theorem proj_cols (us vs : List Nat) (x : RL.R) : projF x (colsI us vs) = (colsF us vs).map (dv x) := by
  unfold projF colsI
  rw [List.map_map]
  exact List.map_congr_left fun i _ => rfl
theorem proj_small {us vs : List Nat} {x : RL.R} (hx : x.length = us.length) (hs : ∀ v ∈ x, SmallV v) : ∀ v ∈ projF x (colsI us vs), SmallV v := fun v hv => by
  unfold projF at hv
  obtain ⟨c, hc, rfl⟩ := List.mem_map.1 hv
  unfold colsI at hc
  obtain ⟨i, hi, rfl⟩ := List.mem_map.1 hc
  exact hs _ (zV_dv ⟨by simp, by have := colsF_lt us vs i hi; simp; omega⟩)
theorem key_agr {a b : At} (ha : Gd a) (hb : Gd b) {x y : RL.R} (hx : x ∈ a.P) (hy : y ∈ b.P) : keyF a.vs b.vs x = keyF b.vs a.vs y ↔ agrF a.vs b.vs x y := by
  rw [← cols_agr ha.asc hb.asc (ha.len x hx) (hb.len y hy), ← proj_cols, ← proj_cols]
  unfold keyF
  exact ⟨fun h => kyB_inj (proj_small (ha.len x hx) fun v hv => (ha.I x hx v hv).small) (proj_small (hb.len y hy) fun v hv => (hb.I y hy v hv).small) h, fun h => by rw [h]⟩
theorem and_bits {us vs : List Nat} (hu : ∀ v ∈ us, v < 32) (_hv : ∀ v ∈ vs, v < 32) : (setN us &&& setN vs) < 4294967296 ∧ ∀ v ∈ us, (setN us &&& setN vs) / 2 ^ v % 2 = if v ∈ vs then 1 else 0 := by
  refine ⟨Nat.lt_of_le_of_lt Nat.and_le_left (setN_lt hu), fun v hvu => ?_⟩
  have h := Nat.testBit_eq_decide_div_mod_eq (x := setN us &&& setN vs) (i := v)
  rw [Nat.testBit_and, setN_bit, setN_bit, decide_eq_true hvu, Bool.true_and] at h
  have := decide_eq_decide.1 h
  by_cases hm : v ∈ vs
  · rw [if_pos hm]; exact this.1 hm
  · rw [if_neg hm]
    have := mt this.2 hm
    omega
def keptF (a b : At) : List RL.R := a.P.filter fun x => decide (gF (keyF b.vs a.vs) b.P (keyF a.vs b.vs x) ≠ [])
theorem kept_semi {a b : At} (ha : Gd a) (hb : Gd b) : keptF a b = semiF a b := by
  refine RL.SS.ext (List.Pairwise.sublist List.filter_sublist ha.ss) (by unfold semiF; exact List.Pairwise.sublist List.filter_sublist ha.ss) fun x => ?_
  unfold keptF
  rw [mem_semiF, List.mem_filter, decide_eq_true_eq]
  refine and_congr_right fun hx => ?_
  constructor
  · intro h
    obtain ⟨y, hy⟩ := List.exists_mem_of_ne_nil _ h
    obtain ⟨h1, h2⟩ := mem_gF.1 hy
    exact ⟨y, h1, (key_agr ha hb hx h1).1 h2.symm⟩
  · rintro ⟨y, hy, hag⟩ h
    have : y ∈ gF (keyF b.vs a.vs) b.P (keyF a.vs b.vs x) := mem_gF.2 ⟨hy, ((key_agr ha hb hx hy).2 hag).symm⟩
    rw [h] at this
    cases this
theorem Gd.semi {a b : At} (ha : Gd a) : Gd ⟨a.vs, semiF a b⟩ where
  asc := ha.asc
  lt := ha.lt
  len r hr := ha.len r (mem_semiF.1 hr).1
  ss := by unfold semiF; exact List.Pairwise.sublist List.filter_sublist ha.ss
  I r hr := ha.I r (mem_semiF.1 hr).1
  many := by unfold semiF; exact Nat.le_trans (List.length_filter_le _ _) ha.many
end
section
open Go.RowKit Go.Sort Go.ChangeMaps Go.WideShapes

set_option maxHeartbeats 16000000 in
theorem sjSemi_ok (va vb : Value) (a b : At) (w : World) (ha : AtV w va a) (hb : AtV w vb b) (ga : Gd a) (gb : Gd b) :
    Calls Tryz.prog 29 #[va, vb] w fun e w' => ∃ v, e = .returned (.tuple #[v, .int .i64 0]) ∧ AtP (fun c => w.heap.size + 3 ≤ c) w'.heap.size w' v ⟨a.vs, semiF a b⟩ ∧ Below w.heap.size w w' := by
  obtain ⟨us, P⟩ := a
  obtain ⟨vs, Q⟩ := b
  obtain ⟨VA, VC, PA, PC, rfl, c1, c2, c3, c4, hv, hP⟩ := ha
  obtain ⟨WA, WC, QA, QC, rfl, c5, c6, c7, c8, hw, hQ⟩ := hb
  simp only at *
  have HKS : Hid (P.filter (fun x => decide (gF (keyF vs us) Q (keyF us vs x) ≠ [])) = semiF ⟨us, P⟩ ⟨vs, Q⟩) := kept_semi ga gb
  have hul : us.length ≤ 32 := ga.vl
  have hvl : vs.length ≤ 32 := gb.vl
  obtain ⟨M, hM⟩ : ∃ M, M = setN us &&& setN vs := ⟨_, rfl⟩
  have hMa := and_bits ga.lt gb.lt
  have hMb : ∀ v ∈ vs, M / 2 ^ v % 2 = if v ∈ us then 1 else 0 := by rw [hM, Nat.and_comm]; exact (and_bits gb.lt ga.lt).2
  obtain ⟨W0, hW0⟩ : ∃ W0, W0 = ((w.alloc (.cells #[.slice VA us.length VC, .int .i64 (us.length : Nat), .slice PA P.length PC] 36)).alloc (.cells #[.slice WA vs.length WC, .int .i64 (vs.length : Nat), .slice QA Q.length QC] 36)).alloc (.cells #[.slice none 0 0, .int .i64 0, .slice none 0 0] 36) := ⟨_, rfl⟩
  have hx0 : Ext w W0 := by rw [hW0]; exact (((Ext.refl w).alloc _).alloc _).alloc _
  have hra : Row W0 w.heap.size 36 [.slice VA us.length VC, .int .i64 (us.length : Nat), .slice PA P.length PC] := by rw [hW0]; exact ((Row.new w 36 _).alloc _).alloc _
  have hrb : Row W0 (w.heap.size + 1) 36 [.slice WA vs.length WC, .int .i64 (vs.length : Nat), .slice QA Q.length QC] := by
    have h := (Row.new (w.alloc (.cells #[.slice VA us.length VC, .int .i64 (us.length : Nat), .slice PA P.length PC] 36)) 36 [.slice WA vs.length WC, .int .i64 (vs.length : Nat), .slice QA Q.length QC]).alloc (.cells #[.slice none 0 0, .int .i64 0, .slice none 0 0] 36)
    rw [World.size_alloc] at h
    rw [hW0]; exact h
  have hrr : Row W0 (w.heap.size + 1 + 1) 36 [.slice none 0 0, .int .i64 0, .slice none 0 0] := by
    have h := Row.new ((w.alloc (.cells #[.slice VA us.length VC, .int .i64 (us.length : Nat), .slice PA P.length PC] 36)).alloc (.cells #[.slice WA vs.length WC, .int .i64 (vs.length : Nat), .slice QA Q.length QC] 36)) 36 [.slice none 0 0, .int .i64 0, .slice none 0 0]
    rw [World.size_alloc, World.size_alloc] at h
    rw [hW0]; exact h
  have HV := Lib.hid (fun W (h : Below w.heap.size w W) => (Sl.below hv h (Nat.le_refl _)).more h.size)
  have HW := Lib.hid (fun W (h : Below w.heap.size w W) => (Sl.below hw h (Nat.le_refl _)).more h.size)
  have HP := Lib.hid (fun W (h : Below w.heap.size w W) => hP.upB h)
  have HQ := Lib.hid (fun W (h : Below w.heap.size w W) => hQ.upB h)
  have HGA := Lib.hid ga
  have HGB := Lib.hid gb
  have HME := Lib.hid hM
  have HMA := Lib.hid hMa
  have HMB := Lib.hid hMb
  have HX0 := Lib.hid hx0
  have HRA := Lib.hid hra
  have HRB := Lib.hid hrb
  have HRR := Lib.hid hrr
  have HSA := Lib.hid (fun W (h : Below w.heap.size w W) => sjSet_any VA PA VC PC P.length us.length us W (HV.out W h) (by omega) ga.lt)
  have HSB := Lib.hid (fun W (h : Below w.heap.size w W) => sjSet_any WA QA WC QC Q.length vs.length vs W (HW.out W h) (by omega) gb.lt)
  have hkeep : ∀ W, Below W0.heap.size W0 W → (W.cell? ⟨w.heap.size, 0, none⟩ = some (.slice VA us.length VC) ∧ W.cell? ⟨w.heap.size, 1, none⟩ = some (.int .i64 (us.length : Nat)) ∧ W.cell? ⟨w.heap.size, 2, none⟩ = some (.slice PA P.length PC)) ∧ W.cell? ⟨w.heap.size + 1, 0, none⟩ = some (.slice WA vs.length WC) ∧ W.cell? ⟨w.heap.size + 1, 1, none⟩ = some (.int .i64 (vs.length : Nat)) ∧ W.cell? ⟨w.heap.size + 1, 2, none⟩ = some (.slice QA Q.length QC) := fun W h => by
    have h1 := hra.up h
    have h2 := hrb.up h
    exact ⟨⟨h1.cell 0, h1.cell 1, h1.cell 2⟩, h2.cell 0, h2.cell 1, h2.cell 2⟩
  have HKP := Lib.hid hkeep
  have HWU := Lib.hid (fun W (h : Below W0.heap.size W0 W) => Below.then hx0.below h hx0.size)
  have HBU : Hid (bits BinOp.and IntKind.u32 (setN us : Int) (setN vs : Int) = (M : Nat)) := by
    show _ = _
    rw [u32_and_nat _ _ (setN_lt ga.lt) (setN_lt gb.lt), hM]
  have hz3 : w.heap.size + 1 + 1 < W0.heap.size := hrr.lt
  clear hv hw hP hQ ga gb hM hMa hMb hx0 hra hrb hrr hkeep c1 c2 c3 c4 c5 c6 c7 c8
  go_enter Tryz.func29, Tryz.ntmps29
  go_upto_region 1 with (fail)
  rw [← hW0]
  clear hW0
  refine wp_region_held_drew (S := (fun w' => (w'.cell? ⟨w.heap.size, 0, none⟩ = some (.slice VA us.length VC) ∧ w'.cell? ⟨w.heap.size, 1, none⟩ = some (.int .i64 (us.length : Nat)) ∧ w'.cell? ⟨w.heap.size, 2, none⟩ = some (.slice PA P.length PC)) ∧ w'.cell? ⟨w.heap.size + 1, 0, none⟩ = some (.slice WA vs.length WC) ∧ w'.cell? ⟨w.heap.size + 1, 1, none⟩ = some (.int .i64 (vs.length : Nat)) ∧ w'.cell? ⟨w.heap.size + 1, 2, none⟩ = some (.slice QA Q.length QC))) (by kernel_rfl) (HKP.out W0.drew (Below.refl _ _).drew) (fun hHeld => ?_)
  refine takeOp (i := 0) (v := ?_) (some 12) rfl rfl (by kernel_rfl) (by kernel_rfl) (by kernel_rfl) (fun _ _ _ h => h) (Or.inl ⟨by rfl, ?_⟩) (by assumption) ?_
  rotate_left 1
  · (intro w0 hSw; (try dsimp only at hSw); go_simp; try (with_reducible rfl))
  try simp only [Act.put, List.setIfInBounds_toArray, List.set_cons_succ, List.set_cons_zero]
  refine takeOp (i := 2) (v := ?_) (some 14) rfl rfl (by kernel_rfl) (by kernel_rfl) (by kernel_rfl) (fun _ _ _ h => h) (Or.inl ⟨by rfl, ?_⟩) (by assumption) ?_
  rotate_left 1
  · (intro w0 hSw; (try dsimp only at hSw); go_simp; try (with_reducible rfl))
  try simp only [Act.put, List.setIfInBounds_toArray, List.set_cons_succ, List.set_cons_zero]
  refine wpAnyH_ready (rs := [1]) (by kernel_rfl) (by simp) ?_
  refine AllReadyH.cons rfl (fun K hK => ?_) AllReadyH.nil
  go_simp
  refine (HSA.out W0.drew (HWU.out _ (Below.refl _ _).drew)).mono ?_
  rintro e V1 ⟨rfl, hb⟩
  have HV1 : Hid (Below W0.heap.size W0 V1) := Below.undrew hb.below
  clear hb
  go_wp2_with fail
  refine hK.out _ _ (HKP.out V1 HV1.out) (fun hHeld => ?_)
  clear hK K
  try simp only [Act.put, List.setIfInBounds_toArray, List.set_cons_succ, List.set_cons_zero]
  refine wpAnyH_ready (rs := [3]) (by kernel_rfl) (by simp) ?_
  refine AllReadyH.cons rfl (fun K hK => ?_) AllReadyH.nil
  go_simp
  refine (HSB.out V1 (HWU.out _ HV1.out)).mono ?_
  rintro e V3 ⟨rfl, hb⟩
  have HV3 : Hid (Below W0.heap.size W0 V3) := Below.then HV1.out hb.below HV1.out.size
  clear hb
  go_wp2_with fail
  refine hK.out _ _ (HKP.out V3 HV3.out) (fun hHeld => ?_)
  clear hK K
  try simp only [Act.put, List.setIfInBounds_toArray, List.set_cons_succ, List.set_cons_zero]
  refine takeOp (i := 4) (v := ?_) (some 16) rfl rfl (by kernel_rfl) (by kernel_rfl) (by kernel_rfl) (fun _ _ _ h => h) (Or.inl ⟨by rfl, ?_⟩) (by assumption) ?_
  rotate_left 1
  · (intro w0 hSw; (try dsimp only at hSw); go_simp; try (with_reducible rfl))
  try simp only [Act.put, List.setIfInBounds_toArray, List.set_cons_succ, List.set_cons_zero]
  refine takeOp (i := 5) (v := ?_) (some 6) rfl rfl (by kernel_rfl) (by kernel_rfl) (by kernel_rfl) (fun _ _ _ h => h) (Or.inl ⟨by rfl, ?_⟩) (by assumption) ?_
  rotate_left 1
  · (intro w0 hSw; (try dsimp only at hSw); go_simp; try (with_reducible rfl))
  try simp only [Act.put, List.setIfInBounds_toArray, List.set_cons_succ, List.set_cons_zero]
  refine wpAnyH_done (by kernel_rfl) ?_ _
  rw [HBU.out]
  clear HBU hHeld
  have HMM := Lib.hid HMA.out
  rw [← HME.out] at HMM
  have HCA := Lib.hid (fun W (h : Below w.heap.size w W) => sjColumns_any VA PA VC PC P.length M us.length us vs W (HV.out W h) (by omega) HGA.out.lt HMM.out.1 HMM.out.2)
  have HCB := Lib.hid (fun W (h : Below w.heap.size w W) => sjColumns_any WA QA WC QC Q.length M vs.length vs us W (HW.out W h) (by omega) HGB.out.lt HMM.out.1 HMB.out)
  have HBK := Lib.hid (fun W (h : Below w.heap.size w W) CB CC (hc : SlI .i64 W.heap.size W CB (colsI vs us)) => sjByKey_any WA QA CB WC QC CC vs.length vs.length Q (colsI vs us) W (HQ.out W h) hc HGB.out.rsOk HGB.out.many (by unfold colsI colsF; rw [List.length_map]; exact Nat.le_trans (List.length_filter_le _ _) (by rw [List.length_range]; omega)) (fun x hx => ⟨by have := HGB.out.len x hx; have h2 : x.length = vs.length := this; omega, fun c hc => by
      unfold colsI at hc
      obtain ⟨i, hi, rfl⟩ := List.mem_map.1 hc
      have h1 := colsF_lt vs us i hi
      have h2 : x.length = vs.length := HGB.out.len x hx
      exact ⟨Int.natCast_nonneg _, by show ((i : Nat) : Int) < _; omega⟩, fun v hv => (HGB.out.I x hx v hv).small⟩))
  have HCC : Hid (∀ us vs, ((colsF us vs).map fun i : Nat => Value.int .i64 (i : Nat)) = (colsI us vs).map (Value.int .i64) ∧ (colsF us vs).length = (colsI us vs).length) := fun us vs => ⟨by unfold colsI; rw [List.map_map]; rfl, by unfold colsI; rw [List.length_map]⟩
  go_upto_region 2 with (fail)
  refine wp_region_held_drew (S := (fun w' => (w'.cell? ⟨w.heap.size, 0, none⟩ = some (.slice VA us.length VC) ∧ w'.cell? ⟨w.heap.size, 1, none⟩ = some (.int .i64 (us.length : Nat)) ∧ w'.cell? ⟨w.heap.size, 2, none⟩ = some (.slice PA P.length PC)) ∧ w'.cell? ⟨w.heap.size + 1, 0, none⟩ = some (.slice WA vs.length WC) ∧ w'.cell? ⟨w.heap.size + 1, 1, none⟩ = some (.int .i64 (vs.length : Nat)) ∧ w'.cell? ⟨w.heap.size + 1, 2, none⟩ = some (.slice QA Q.length QC))) (by kernel_rfl) (HKP.out V3.drew HV3.out.drew) (fun hHeld => ?_)
  refine takeOp (i := 0) (v := ?_) (some 17) rfl rfl (by kernel_rfl) (by kernel_rfl) (by kernel_rfl) (fun _ _ _ h => h) (Or.inl ⟨by rfl, ?_⟩) (by assumption) ?_
  rotate_left 1
  · (intro w0 hSw; (try dsimp only at hSw); go_simp; try (with_reducible rfl))
  try simp only [Act.put, List.setIfInBounds_toArray, List.set_cons_succ, List.set_cons_zero]
  refine takeOp (i := 1) (v := ?_) (some 18) rfl rfl (by kernel_rfl) (by kernel_rfl) (by kernel_rfl) (fun _ _ _ h => h) (Or.inl ⟨by rfl, ?_⟩) (by assumption) ?_
  rotate_left 1
  · (intro w0 hSw; (try dsimp only at hSw); go_simp; try (with_reducible rfl))
  try simp only [Act.put, List.setIfInBounds_toArray, List.set_cons_succ, List.set_cons_zero]
  refine takeOp (i := 3) (v := ?_) (some 20) rfl rfl (by kernel_rfl) (by kernel_rfl) (by kernel_rfl) (fun _ _ _ h => h) (Or.inl ⟨by rfl, ?_⟩) (by assumption) ?_
  rotate_left 1
  · (intro w0 hSw; (try dsimp only at hSw); go_simp; try (with_reducible rfl))
  try simp only [Act.put, List.setIfInBounds_toArray, List.set_cons_succ, List.set_cons_zero]
  refine takeOp (i := 4) (v := ?_) (some 21) rfl rfl (by kernel_rfl) (by kernel_rfl) (by kernel_rfl) (fun _ _ _ h => h) (Or.inl ⟨by rfl, ?_⟩) (by assumption) ?_
  rotate_left 1
  · (intro w0 hSw; (try dsimp only at hSw); go_simp; try (with_reducible rfl))
  try simp only [Act.put, List.setIfInBounds_toArray, List.set_cons_succ, List.set_cons_zero]
  refine takeOp (i := 5) (v := ?_) (some 22) rfl rfl (by kernel_rfl) (by kernel_rfl) (by kernel_rfl) (fun _ _ _ h => h) (Or.inl ⟨by rfl, ?_⟩) (by assumption) ?_
  rotate_left 1
  · (intro w0 hSw; (try dsimp only at hSw); go_simp; try (with_reducible rfl))
  try simp only [Act.put, List.setIfInBounds_toArray, List.set_cons_succ, List.set_cons_zero]
  refine wpAnyH_ready (rs := [2]) (by kernel_rfl) (by simp) ?_
  refine AllReadyH.cons rfl (fun K hK => ?_) AllReadyH.nil
  go_simp
  refine (HCA.out V3.drew (HWU.out _ HV3.out.drew)).mono ?_
  rintro e V4 ⟨v4, rfl, ho, hb⟩
  rw [(HCC.out us vs).1, (HCC.out us vs).2] at ho
  obtain ⟨CA4, CC4, rfl, -, -, hs4⟩ := Sl.of_own ho
  rw [List.length_map] 
  have HS4 := Lib.hid hs4
  have HV4 : Hid (Below W0.heap.size W0 V4) := Below.then HV3.out (Below.undrew hb) HV3.out.size
  clear ho hb hs4
  go_wp2_with fail
  refine hK.out _ _ (HKP.out V4 HV4.out) (fun hHeld => ?_)
  clear hK K
  try simp only [Act.put, List.setIfInBounds_toArray, List.set_cons_succ, List.set_cons_zero]
  refine wpAnyH_ready (rs := [6]) (by kernel_rfl) (by simp) ?_
  refine AllReadyH.cons rfl (fun K hK => ?_) AllReadyH.nil
  go_simp
  refine (HCB.out V4 (HWU.out _ HV4.out)).mono ?_
  rintro e V5 ⟨v5, rfl, ho, hb⟩
  rw [(HCC.out vs us).1, (HCC.out vs us).2] at ho
  obtain ⟨CA5, CC5, rfl, -, -, hs5⟩ := Sl.of_own ho
  rw [List.length_map] 
  have HS5 := Lib.hid hs5
  have HS45 := Lib.hid ((Sl.below HS4.out hb (Nat.le_refl _)).more hb.size)
  have HV5 : Hid (Below W0.heap.size W0 V5) := Below.then HV4.out hb HV4.out.size
  clear ho hb hs5
  go_wp2_with fail
  refine hK.out _ _ (HKP.out V5 HV5.out) (fun hHeld => ?_)
  clear hK K
  try simp only [Act.put, List.setIfInBounds_toArray, List.set_cons_succ, List.set_cons_zero]
  refine wpAnyH_ready (rs := [7]) (by kernel_rfl) (by simp) ?_
  refine AllReadyH.cons rfl (fun K hK => ?_) AllReadyH.nil
  go_simp
  refine (HBK.out V5 (HWU.out _ HV5.out) CA5 CC5 HS5.out).mono ?_
  rintro e V6 ⟨B6, mb, mn, mD, mf, mks, rfl, hg6, hb⟩
  have HG6 : Hid (GrpM (keyF vs us) B6 mb V6 Q mn mD mf mks) := hg6
  have HS6 := Lib.hid ((Sl.below HS45.out hb (Nat.le_refl _)).more hb.size)
  have HV6 : Hid (Below W0.heap.size W0 V6) := Below.then HV5.out hb HV5.out.size
  clear hb hg6
  go_wp2_with fail
  refine hK.out _ _ (HKP.out V6 HV6.out) (fun hHeld => ?_)
  clear hK K
  try simp only [Act.put, List.setIfInBounds_toArray, List.set_cons_succ, List.set_cons_zero]
  refine takeOp (i := 8) (v := ?_) (some 7) rfl rfl (by kernel_rfl) (by kernel_rfl) (by kernel_rfl) (fun _ _ _ h => h) (Or.inl ⟨by rfl, ?_⟩) (by assumption) ?_
  rotate_left 1
  · (intro w0 hSw; (try dsimp only at hSw); go_simp; try (with_reducible rfl))
  try simp only [Act.put, List.setIfInBounds_toArray, List.set_cons_succ, List.set_cons_zero]
  refine takeOp (i := 9) (v := ?_) (some 8) rfl rfl (by kernel_rfl) (by kernel_rfl) (by kernel_rfl) (fun _ _ _ h => h) (Or.inl ⟨by rfl, ?_⟩) (by assumption) ?_
  rotate_left 1
  · (intro w0 hSw; (try dsimp only at hSw); go_simp; try (with_reducible rfl))
  try simp only [Act.put, List.setIfInBounds_toArray, List.set_cons_succ, List.set_cons_zero]
  refine wpAnyH_done (by kernel_rfl) ?_ _
  have x1 := (HKP.out V6 HV6.out).1.2.1
  have x2 := (HKP.out V6 HV6.out).1.2.2
  have hz6 : w.heap.size < V6.heap.size := by have := HV6.out.size; omega
  have HRW := Lib.hid (rlRows_any us.length PA PC P V6 (HP.out V6 (HWU.out _ HV6.out)) HGA.out.rsOk (by have := HGA.out.many; exact Nat.le_trans this (by omega)))
  clear HSA HSB HCA HCB HBK HCC hHeld
  go_wp2_with fail
  refine HRW.out.mono ?_
  rintro e W2 ⟨g, rfl, hmade, hb2⟩
  obtain ⟨B, hBe⟩ : ∃ B, B = W2.heap.size := ⟨_, rfl⟩
  have HBE := Lib.hid hBe
  have HM := Lib.hid hmade
  have HV2 : Hid (Below W0.heap.size W0 W2) := Below.then HV6.out hb2 HV6.out.size
  have HG2 := Lib.hid (HG6.out.keep hb2)
  have HS2 := Lib.hid ((Sl.below HS6.out hb2 (Nat.le_refl _)).more hb2.size)
  have HZ2 : Hid (w.heap.size + 1 + 1 < W2.heap.size) := by have := HV2.out.size; show _ < _; omega
  obtain ⟨KP, hKPe⟩ : ∃ KP : Nat → List RL.R, KP = fun k => (P.take k).filter (fun x => decide (gF (keyF vs us) Q (keyF us vs x) ≠ [])) := ⟨_, rfl⟩
  have HKE := Lib.hid hKPe
  have HKS2 : Hid (KP P.length = semiF ⟨us, P⟩ ⟨vs, Q⟩) := by show _ = _; rw [hKPe, ← HKS.out]; simp only [List.take_length]
  have HKL : Hid (∀ k, (KP k).length ≤ 60000) := fun k => by
    rw [hKPe]
    have h1 := List.length_filter_le (fun x => decide (gF (keyF vs us) Q (keyF us vs x) ≠ [])) (P.take k)
    have h2 : (P.take k).length ≤ P.length := by rw [List.length_take]; exact Nat.min_le_right _ _
    have h3 : P.length ≤ 60000 := HGA.out.many
    show _ ≤ _
    simp only
    omega
  clear hmade hb2 hBe hKPe HRW HG6 HS6 HS45 HS5 HS4 HKS
  go_wp2_with fail
  go_loopw [9, 29] (fun vo c wx => ∃ (k : Nat) (hs : List Value), k ≤ P.length ∧ c = .int .i64 k ∧ wx.ownsRow B 69 1 vo (KP k).length hs ∧ Hdrs (fun _ => True) B wx hs (KP k) ∧ Below B W2 wx) (fun _ c _ => P.length - (intOf c).toNat)
  case atStart =>
    refine ⟨0, [], Nat.zero_le _, rfl, ?_, ?_, Below.refl _ _⟩
    · rw [HKE.out]; exact own_nil _ _ _ _
    · rw [HKE.out]; exact Hdrs.nil
  case round =>
    obtain ⟨k, hs, hk, rfl, hown, hhd, hbw⟩ := hrel
    have HO := Lib.hid hown
    have HH := Lib.hid hhd
    have HB := Lib.hid hbw
    have hBz : B ≤ wr.heap.size := by have h1 := HBE.out; have h2 := hbw.size; omega
    have HBR : Hid (Below W2.heap.size W2 wr) := by have h := hbw; rw [HBE.out] at h; exact h
    clear hown hhd hbw
    by_cases hkl : k < P.length
    rotate_left
    · obtain rfl : k = P.length := by omega
      have r1 : ¬ (P.length : Int) < (P.length : Int) := by omega
      have hr := HKP.out wr (Below.then HV2.out HBR.out HV2.out.size)
      have x0 := hr.1.1
      have hzr : w.heap.size < wr.heap.size := by have := HZ2.out; have := HBR.out.size; omega
      obtain ⟨KA, KC, rfl, -, -, hks⟩ := own_slrs HO.out HH.out hBz (fun _ _ => trivial)
      have hks := hks.sl
      rw [HKS2.out] at hks ⊢
      have hss : RL.SS (semiF ⟨us, P⟩ ⟨vs, Q⟩) := (Gd.semi (a := ⟨us, P⟩) (b := ⟨vs, Q⟩) HGA.out).ss
      have hsub : ∀ x ∈ semiF ⟨us, P⟩ ⟨vs, Q⟩, x ∈ P := fun x hx => (mem_semiF.1 hx).1
      have hlen : (semiF ⟨us, P⟩ ⟨vs, Q⟩).length ≤ 60000 := (Gd.semi (a := ⟨us, P⟩) (b := ⟨vs, Q⟩) HGA.out).many
      have hat := sjAtom_ok VA KA VC KC (us.map Int.ofNat) (semiF ⟨us, P⟩ ⟨vs, Q⟩) wr (HV.out wr (HWU.out _ (Below.then HV2.out HBR.out HV2.out.size))) hks (by rw [List.length_map]; exact hul) (fun x hx => HGA.out.rok (hsub x hx)) hlen (by rw [List.length_map]; exact HGA.out.err hsub)
      unfold AtomPost at hat
      rw [RL.ofF_self hss, List.length_map] at hat
      have HAT := Lib.hid hat
      have HRR2 := Lib.hid (HRR.out.up (Below.then HV2.out HBR.out HV2.out.size))
      have HBW := Lib.hid (HWU.out wr (Below.then HV2.out HBR.out HV2.out.size))
      clear hr hks hss hsub hlen hat HO HH HM HG2 HS2
      generalize hYE : semiF ⟨us, P⟩ ⟨vs, Q⟩ = Y at *
      have HYE := Lib.hid hYE
      clear hYE
      go_wp2_with fail
      refine HAT.out.mono ?_
      rintro e w1 ⟨RA, RC, SA, SC, rfl, hv1, k1, k2, k3, k4, hb1⟩
      have q := HRR2.out.up hb1
      have m0 : w1.cell? ⟨w.heap.size + 1 + 1, 0, none⟩ = some (.slice none 0 0) := q.cell 0
      have m1 : w1.cell? ⟨w.heap.size + 1 + 1, 1, none⟩ = some (.int .i64 0) := q.cell 1
      have m2 : w1.cell? ⟨w.heap.size + 1 + 1, 2, none⟩ = some (.slice none 0 0) := q.cell 2
      have m3 := q.frozen 0
      have m4 := q.frozen 1
      have m5 := q.frozen 2
      have m6 := q.lt
      have HQ := Lib.hid q
      have HV1 := Lib.hid hv1
      have HKK := Lib.hid (And.intro (And.intro k1 k2) (And.intro k3 k4))
      have HB1 := Lib.hid (Below.then HBW.out hb1 HBW.out.size)
      have HZW : Hid (w.heap.size + 3 ≤ wr.heap.size ∧ wr.heap.size ≤ w1.heap.size) := ⟨by have := HZ2.out; have := HBR.out.size; omega, hb1.size⟩
      clear q hv1 k1 k2 k3 k4 hb1 HAT
      go_wp2_with fail
      obtain ⟨V6, hV6⟩ : ∃ V', V' = ((w1.setCell ⟨w.heap.size + 1 + 1, 0, none⟩ (.slice RA us.length RC)).setCell ⟨w.heap.size + 1 + 1, 1, none⟩ (.int .i64 (us.length : Nat))).setCell ⟨w.heap.size + 1 + 1, 2, none⟩ (.slice SA Y.length SC) := ⟨_, rfl⟩
      rw [← hV6]
      have q : Row V6 (w.heap.size + 1 + 1) 36 [.slice RA us.length RC, .int .i64 (us.length : Nat), .slice SA Y.length SC] := by rw [hV6]; exact ((HQ.out.set 0 _).set 1 _).set 2 _
      have f0 := q.cell 0
      have f1 := q.cell 1
      have f2 := q.cell 2
      have hcell : ∀ p : Addr, p.block ≠ w.heap.size + 1 + 1 → V6.cell? p = w1.cell? p := fun p hp => by
        rw [hV6, World.cell?_setCell_other _ _ _ _ (fun e => hp (by rw [← e])), World.cell?_setCell_other _ _ _ _ (fun e => hp (by rw [← e])), World.cell?_setCell_other _ _ _ _ (fun e => hp (by rw [← e]))]
      have hsz : V6.heap.size = w1.heap.size := by rw [hV6]; simp
      refine bodyPost_ret (v := .tuple #[.agg #[.slice RA us.length RC, .int .i64 (us.length : Nat), .slice SA Y.length SC], .int .i64 0]) (by simp [results, Tryz.results29, go_sem, f0, f1, f2]) rfl ?_
      rw [HYE.out]
      refine ⟨_, rfl, ⟨RA, RC, SA, SC, rfl, HKK.out.2.1, HKK.out.2.2, HKK.out.1.1, HKK.out.1.2, fun W hag => ?_⟩, ?_⟩
      · rw [hsz]
        refine HV1.out W fun p h1 h2 => ?_
        have := HZW.out
        rw [hag p (by rw [hsz]; exact h2) (by omega)]
        exact hcell p (by omega)
      · rw [hV6]
        exact ((HB1.out.setCell (by show w.heap.size ≤ w.heap.size + 1 + 1; omega) _).setCell (by show w.heap.size ≤ w.heap.size + 1 + 1; omega) _).setCell (by show w.heap.size ≤ w.heap.size + 1 + 1; omega) _
    have r0 : (0 : Int) ≤ (k : Int) := by omega
    have r1 : (k : Int) < (P.length : Int) := by omega
    have r3 : IntKind.i64.wrap ((k : Int) + 1) = ((k + 1 : Nat) : Int) := by rw [IntWalk.i64_in _ (by have h3 : P.length ≤ 60000 := HGA.out.many; omega)]; omega
    obtain ⟨hsM, hrow, hhl, hBg, hat⟩ := HM.out
    obtain ⟨A1, C1, q1, q2, q3, q4, q5⟩ := hat k hkl hkl
    have d0 : wr.cell? ⟨g, k, none⟩ = some (.slice A1 P[k].length C1) := by
      rw [HBR.out.cell (p := ⟨g, k, none⟩) hrow.lt, hrow.cell]; exact q1
    have hgz : g < wr.heap.size := Nat.lt_of_lt_of_le hrow.lt HBR.out.size
    have HUX : Hid (∀ W, Below W2.heap.size W2 W → HR (fun _ => True) B W (.slice A1 P[k].length C1) P[k]) := fun W hb => ⟨A1, C1, rfl, q2, q3, by rw [HBE.out]; exact q4.below hb (Nat.le_refl _), fun _ _ _ => trivial⟩
    have hsl : SlR wr.heap.size wr A1 P[k] := (q4.below HBR.out (Nat.le_refl _)).more HBR.out.size
    have hPk : P[k] ∈ P := List.getElem_mem hkl
    have hxl : P[k].length = us.length := HGA.out.len _ hPk
    have HTK : Hid (KP (k + 1) = KP k ++ (if gF (keyF vs us) Q (keyF us vs P[k]) ≠ [] then [P[k]] else [])) := by
      show _ = _
      rw [HKE.out]
      simp only
      rw [List.take_succ_eq_append_getElem hkl, List.filter_append]
      congr 1
      by_cases hm : gF (keyF vs us) Q (keyF us vs P[k]) ≠ []
      · rw [if_pos hm, List.filter_cons_of_pos (by simpa using hm)]; rfl
      · rw [if_neg hm, List.filter_cons_of_neg (by simpa using hm)]; rfl
    have HKY := Lib.hid (sjKey_any A1 CA4 C1 CC4 P[k] (colsI us vs) wr hsl ((Sl.below HS2.out HBR.out (Nat.le_refl _)).more HBR.out.size) (by omega) (by unfold colsI colsF; rw [List.length_map]; exact Nat.le_trans (List.length_filter_le _ _) (by rw [List.length_range]; omega)) (fun c hc => by
      unfold colsI at hc
      obtain ⟨i, hi, rfl⟩ := List.mem_map.1 hc
      have h1 := colsF_lt us vs i hi
      exact ⟨Int.natCast_nonneg _, by show ((i : Nat) : Int) < _; omega⟩) (fun v hv => (HGA.out.I _ hPk v hv).small))
    have HKYL : Hid ((keyF us vs P[k]).length ≤ maxLen) := by
      show _ ≤ _
      unfold keyF
      rw [kyB_length, projF_length]
      have : (colsI us vs).length ≤ us.length := by unfold colsI colsF; rw [List.length_map]; exact Nat.le_trans (List.length_filter_le _ _) (by rw [List.length_range]; exact Nat.le_refl _)
      simp only [maxLen]
      omega
    change Hid (Calls Tryz.prog _ _ _ fun e w' => e = .returned (.string ⟨(keyF us vs P[k]).toArray⟩) ∧ _) at HKY
    clear hrow hhl hBg hat q1 q2 q3 q4 q5 hsl hPk hxl
    generalize P[k] = x at *
    generalize keyF us vs x = s at *
    go_wp2_with fail
    refine HKY.out.mono ?_
    rintro e w1 ⟨rfl, hb1⟩
    have HB1 : Hid (Below B W2 w1) := Below.then HB.out hb1 hBz
    have HBR1 : Hid (Below W2.heap.size W2 w1) := Below.then HBR.out hb1 HBR.out.size
    have HO1 := Lib.hid (own_keep HO.out hb1)
    have HH1 := Lib.hid (HH.out.keep fun p hp _ => hb1.cell (Nat.lt_of_lt_of_le hp hBz))
    obtain ⟨LA, LC, hlk, -, -, -⟩ := (HG2.out.keep HBR1.out).look s HKYL.out
    have hz1 := hb1.size
    clear hb1 HKY d0 HO HH
    unfold bs at hlk
    by_cases hm : gF (keyF vs us) Q s ≠ []
    · have hpos : 0 < (gF (keyF vs us) Q s).length := List.length_pos_iff.2 hm
      have HT2 : Hid (KP (k + 1) = KP k ++ [x]) := by have h := HTK.out; rw [if_pos hm] at h; exact h
      have hgl := gF_len (keyF vs us) Q s
      generalize (gF (keyF vs us) Q s).length = ml at *
      have hd : decide ((0 : Int) < (ml : Int)) = true := decide_eq_true (by omega)
      have hd1 : decide (0 < ml) = true := decide_eq_true hpos
      have hd2 : 0 < ml := hpos
      have hkk := HKL.out k
      have HOW1 := Lib.hid (fun (o : Obj) => own_keep HO1.out ((Ext.refl w1).alloc o).below)
      have HRW1 := Lib.hid (Row.new w1 69 [.slice A1 x.length C1])
      have HBZ1 : Hid (∀ o : Obj, B ≤ (w1.alloc o).heap.size) := fun o => Nat.le_trans (Nat.le_trans hBz hz1) ((Ext.refl w1).alloc o).size
      have HKK : Hid (((KP k).length + 1) * 24 ≤ 140737488355328) := by show _ ≤ _; omega
      clear hm hpos hgl HTK hkk
      go_wp2_with (at_builtin; refine appH1 rfl (.tmp 40) (.tmp 42) rfl B u9 (KP k).length hs rfl (HOW1.out _) w1.heap.size (.slice A1 x.length C1) rfl (HRW1.out.cell 0) rfl HKK.out (HBZ1.out _) ?_
                   intro v5 w5 hown hg hat
                   have HO5 := Lib.hid hown
                   have HB5 : Hid (Below B W2 w5) := Below.grown (Below.then HB1.out ((Ext.refl w1).alloc _).below (Nat.le_trans hBz hz1)) hg (HBZ1.out _) (fun j hj => own_base HO1.out hj)
                   clear hown hg hat)
      have HH5 : Hid (Hdrs (fun _ => True) B w5 (hs ++ [.slice A1 x.length C1]) (KP k ++ [x])) := (HH1.out.keep fun p hp _ => by
          have h1 := HB5.out.cell (p := p) hp
          have h2 := HB1.out.cell (p := p) hp
          exact h1.trans h2.symm).append (Hdrs.one (HUX.out w5 (by have h := HB5.out; rw [HBE.out] at h; exact h)))
      go_roundw
      case rel => exact ⟨k + 1, hs ++ [.slice A1 x.length C1], hkl, by go_num, by rw [HT2.out, List.length_append]; exact HO5.out, by rw [HT2.out]; exact HH5.out, HB5.out⟩
      case measure => simp [intOf]; omega
    · have hmz : gF (keyF vs us) Q s = [] := Classical.byContradiction hm
      have HT2 : Hid (KP (k + 1) = KP k) := by have h := HTK.out; rw [if_neg hm, List.append_nil] at h; exact h
      rw [hmz] at hlk
      clear hm hmz HTK
      go_wp2_with fail
      go_roundw
      case rel => exact ⟨k + 1, hs, hkl, by go_num, by rw [HT2.out]; exact HO1.out, by rw [HT2.out]; exact HH1.out, HB1.out⟩
      case measure => simp [intOf]; omega
end
end Go.Proofs.YthgaflmldbgbnaaGreatDoor

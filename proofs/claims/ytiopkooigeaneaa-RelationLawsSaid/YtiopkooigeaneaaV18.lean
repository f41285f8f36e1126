/- Walk: the reference's Project. -/
import Derived.Test.YtiopkooigeaneaaV17
import Derived.Deep.RegionLaw
import Derived.Deep.AppendLies
namespace Go.Proofs.Ytiopkooigeaneaa
open Go.RowKit Go.Sort

theorem step1W {w : World} {ops : Array Oper} {o : Oper} {a : Act} {K : Act → World → Prop} {Q : Exit → Act → World → Prop} {E : Prop} (hgd : o.guard = none) (s x : Operand)
    (ho : o.op = .call { callee := .builtin .append, args := #[s, x], argTypes := #[39, 39] })
    (base : Nat) (v : Value) (l : RL.R) (hs : a.eval s = v) (hown : w.ownsRow base 70 3 v l.length (rcells l))
    (gt : Nat) (z : RL.V) (hx : a.eval x = .slice (some ⟨gt, 0, none⟩) 1 1) (h0 : w.cell? ⟨gt, 0, none⟩ = some (.int .i64 z.kind)) (h1 : w.cell? ⟨gt, 1, none⟩ = some (.int .i64 z.int)) (h2 : w.cell? ⟨gt, 2, none⟩ = some (.string z.str))
    (hn : l.length ≤ 100000000) (hbase : base ≤ w.heap.size)
    (h : ∀ v' w', w'.ownsRow base 70 3 v' (l ++ [z]).length (rcells (l ++ [z])) → w.grownBy w' v.ownBlock → K (a.put o.dst v') w') :
    if Region.wanted o (yielded ops a.tmps) = true then Oper.wp Try.prog o a w K Q else E := by
  obtain ⟨i0, hi0, hz0, hz1, hz2⟩ := info_parts r1Info
  refine step_append_lies w hgd s x 39 ho base 70 i0 _ 3 32 Try.underlying39 hi0 hz0 hz1 hz2 rfl (by decide) v l.length (rcells l) hs hown ⟨gt, 0, none⟩ 1 1 (vcells z) hx rfl ?_ ?_ (by decide) (by simp only [maxLen]; omega) (by omega) hbase w.heap.size rfl ?_
  · intro j u hu
    match j with
    | 0 => simp [vcells] at hu; subst hu; exact h0
    | 1 => simp [vcells] at hu; subst hu; exact h1
    | 2 => simp [vcells] at hu; subst hu; exact h2
    | j + 3 => simp [vcells] at hu
  · intro u hu; simp [vcells] at hu; rcases hu with rfl | rfl | rfl <;> rfl
  · intro g cap w' k1 k2 _ _
    refine h _ w' ?_ k2
    rw [rcells_append, List.length_append]
    simpa [rcells] using k1

theorem own_drew {w : World} {base : Nat} {e : TypeId} {size : Nat} {v : Value} {n : Nat} {xs : List Value} (h : w.ownsRow base e size v n xs) : w.drew.ownsRow base e size v n xs := h

theorem projF_snoc (x : RL.R) (cs : List Int) (k : Nat) (h : k < cs.length) : projF x (cs.take (k + 1)) = projF x (cs.take k) ++ [x.getD cs[k].toNat zV] := by
  unfold projF
  rw [List.take_succ_eq_append_getElem h, List.map_append]
  rfl

theorem projF_ok {x : RL.R} {cs : List Int} (hx : ROk x) (hv : ∀ c ∈ cs, 0 ≤ c ∧ c < (x.length : Int)) (hl : cs.length ≤ 1000) : ROk (projF x cs) := by
  refine ⟨by rw [projF_length]; omega, fun v hv2 => ?_⟩
  obtain ⟨c, hc, rfl⟩ := List.mem_map.1 hv2
  obtain ⟨h0, h1⟩ := hv c hc
  have hlt : c.toNat < x.length := by omega
  have e : x.getD c.toNat zV = x[c.toNat] := by simp [List.getD, hlt]
  rw [e]
  exact hx.2 _ (List.getElem_mem hlt)

set_option maxHeartbeats 1000000 in
set_option maxRecDepth 100000 in
theorem r7Project_any (XA CA : Option Addr) (XC CC : Nat) (X : List RL.R) (cs : List Int) (w : World) (hX : SlRs w.heap.size w XA X) (hc : SlI .i64 w.heap.size w CA cs) (hXl : X.length ≤ 100000) (hcl : cs.length ≤ 1000) (hXo : RsOk X) (hv : ∀ x ∈ X, ∀ c ∈ cs, 0 ≤ c ∧ c < (x.length : Int)) :
    Calls Try.prog 29 #[.slice XA X.length XC, .slice CA cs.length CC] w fun e w' => ∃ v, e = .returned v ∧ RowsIs w' (RL.ofF (X.map (projF · cs))) v ∧ Below w.heap.size w w' := by
  have HX := Lib.hid hX
  have HC := Lib.hid hc
  have HXO := Lib.hid hXo
  have HV := Lib.hid hv
  clear hX hXo hc hv
  go_enter Try.func29, Try.ntmps29
  go_wp2
  go_loopw [5, 6] (fun v i wr => ∃ k : Nat, k ≤ X.length ∧ i = .int .i64 k ∧ RowsIs wr (RL.ofF ((X.take k).map (projF · cs))) v ∧ Below w.heap.size w wr) (fun _ i _ => X.length - (intOf i).toNat)
  case atStart => exact ⟨0, Nat.zero_le _, rfl, ⟨none, 0, rfl, by simp [RL.ofF], by omega, SlRs.nil⟩, Below.refl _ _⟩
  case round =>
    obtain ⟨k, hka, rfl, hrows, hbel⟩ := hrel
    have HR := Lib.hid hrows
    have HB := Lib.hid hbel
    have hzz := hbel.size
    clear hrows
    by_cases h1 : k < X.length
    · obtain ⟨b, o, A1, C1, rfl, hb, c1, hcap, hcm, s1⟩ := slRs_at HX.out h1
      have d1 := (hbel.cell (p := ⟨b, o + k, none⟩) hb).trans c1
      have HS1 := Lib.hid ((s1.below hbel (Nat.le_refl _)))
      have HVk := Lib.hid (HV.out X[k] (List.getElem_mem h1))
      have HN2 : Hid (RL.ofF ((X.take (k + 1)).map (projF · cs)) = RL.insF (RL.ofF ((X.take k).map (projF · cs))) (projF X[k] cs)) := by
        show _ = _
        have h := ofF_snoc (X.map (projF · cs)) k (by simpa using h1)
        rw [← List.map_take, ← List.map_take, List.getElem_map] at h
        exact h
      have HPO := Lib.hid (projF_ok (HXO.out.at_ h1) HVk.out hcl)
      have HYO : Hid (RsOk (RL.ofF ((X.take k).map (projF · cs)))) := fun y hy => by
        obtain ⟨z, hz, rfl⟩ := List.mem_map.1 ((RL.mem_ofF _ _).1 hy)
        have hz' := List.mem_of_mem_take hz
        exact projF_ok (HXO.out z hz') (HV.out z hz') hcl
      have hYl : (RL.ofF ((X.take k).map (projF · cs))).length ≤ 100000 := by
        have h := RL.ofF_length_le ((X.take k).map (projF · cs))
        rw [List.length_map, List.length_take] at h
        omega
      clear c1 s1 hbel hcap hcm
      generalize X[k] = x at d1 HS1 HVk HN2 HPO
      generalize RL.ofF ((X.take k).map (projF · cs)) = Y1 at HR HYO HN2 hYl
      obtain ⟨wo, hwo⟩ : ∃ wo, wo = wr := ⟨_, rfl⟩
      subst hwo
      go_wp2
      go_loopw [7, 8] (fun v i wr2 => ∃ j : Nat, j ≤ cs.length ∧ i = .int .i64 j ∧ wr2.ownsRow wo.heap.size 70 3 v (projF x (cs.take j)).length (rcells (projF x (cs.take j))) ∧ Below wo.heap.size wo wr2) (fun _ i _ => cs.length - (intOf i).toNat)
      case atStart => exact ⟨0, Nat.zero_le _, rfl, own_nil _ _ _ _, Below.refl _ _⟩
      case round =>
        obtain ⟨j, hja, rfl, hown, hbel2⟩ := hrel
        have HO := Lib.hid hown
        have HB2 := Lib.hid hbel2
        have hz2 := hbel2.size
        clear hown
        by_cases h2 : j < cs.length
        · obtain ⟨b2, o2, rfl, hb2, q1⟩ := slI_at HC.out h2
          obtain ⟨v1, v2⟩ := HVk.out cs[j] (List.getElem_mem h2)
          have HN := Lib.hid (projF_snoc x cs j h2)
          have e1 := ((hbel2.cell (p := ⟨b2, o2 + j, none⟩) (show b2 < wo.heap.size by omega)).trans ((HB.out.cell (p := ⟨b2, o2 + j, none⟩) hb2).trans q1))
          have e2 := (hbel2.cell (p := ⟨b, o + k, none⟩) (show b < wo.heap.size by omega)).trans d1
          generalize cs[j] = c at v1 v2 HN e1 q1
          obtain ⟨q, rfl⟩ := Int.eq_ofNat_of_zero_le v1
          have hq : q < x.length := by omega
          rw [getD_at hq] at HN
          obtain ⟨b3, o3, rfl, hb3, f1, f2, f3⟩ := slR_at HS1.out hq
          have g1 := (hbel2.cell (p := ⟨b3, o3 + q * 3, none⟩) (show b3 < wo.heap.size by omega)).trans f1
          have g2 := (hbel2.cell (p := ⟨b3, o3 + q * 3 + 1, none⟩) (show b3 < wo.heap.size by omega)).trans f2
          have g3 := (hbel2.cell (p := ⟨b3, o3 + q * 3 + 2, none⟩) (show b3 < wo.heap.size by omega)).trans f3
          clear f1 f2 f3 q1 hbel2 d1
          generalize x[q] = u at g1 g2 g3 HN
          go_wp2
          go_region_law (refine step1W rfl (.tmp 21) (.tmp 32) rfl wo.heap.size u7 (projF x (cs.take j)) (by simp [Act.eval, Act.put]) (own_drew (HO.out.alloc _)) wr.heap.size u (by simp [Act.eval, Act.put]) (by go_simp) (by go_simp) (by go_simp) (by simp [projF_length]; omega) (by simp; omega) ?_
                         intro v' w1 hown1 hg1
                         have HO1 := Lib.hid hown1
                         have HB1 := Lib.hid (Below.then (HB2.out.alloc hz2 _).drew (app_grown (B := wo.heap.size) hg1 (fun g hg => own_base HO.out hg) (by simp; omega)) (Nat.le_refl _))
                         clear hown1 hg1)
          all_goals
            first | done | skip
            try go_wp2
            first
              | exact ⟨⟨j + 1, by omega, by go_num, by rw [HN.out]; exact HO1.out, HB1.out⟩, by simp [intOf]; omega⟩
              | (go_roundw
                 case rel => exact ⟨j + 1, by omega, by go_num, by rw [HN.out]; exact HO1.out, HB1.out⟩
                 case measure => simp [intOf]; omega)
        · have HT := Lib.hid (List.take_of_length_le (show cs.length ≤ j by omega))
          rw [HT.out] at HO
          obtain ⟨-, A5, C5, rfl, hc5, hm5, hs5, -⟩ := SlR.of_own HO.out
          obtain ⟨VA, VC, rfl, hv1, hv2, hv3⟩ := HR.out
          have HC5 := Lib.hid (r7Insert_any VA A5 VC C5 Y1 (projF x cs) wr (hv3.upB hbel2) hs5 hYl HYO.out HPO.out hv1 hv2 hc5 hm5)
          clear hs5 hv3 HO
          generalize projF x cs = pc at hc5 HC5 HN2 HPO ⊢
          go_wp2_with fail
          refine HC5.out.mono ?_
          rintro e w6 ⟨v6, rfl, hr6, hb6⟩
          have HR6 := Lib.hid hr6
          have HB6 := Lib.hid (Below.then HB.out (Below.then hbel2 hb6 hz2) hzz)
          clear hr6 hb6 HC5
          go_wp2
          go_roundw
          case rel => exact ⟨k + 1, by omega, by go_num, by rw [HN2.out]; exact HR6.out, HB6.out⟩
          case measure => simp [intOf]; omega
    · have HT := Lib.hid (List.take_of_length_le (show X.length ≤ k by omega))
      rw [HT.out] at HR
      go_wp2
      go_ret
      exact ⟨_, rfl, HR.out, hbel⟩

end Go.Proofs.Ytiopkooigeaneaa

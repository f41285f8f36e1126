/- Walks: the reference's Insert and Delete, with a word on the blocks in which the rows lie. -/
import Derived.Test.YtiopkooigeaneaaV25
namespace Go.Proofs.Ytiopkooigeaneaa
open Go.RowKit Go.Sort

/-- A value that reads as a list of rows, all of it in blocks that P allows. -/
def RowsP (P : Nat → Prop) (w : World) (X : List RL.R) (v : Value) : Prop := ∃ A C, v = .slice A X.length C ∧ X.length ≤ C ∧ C ≤ 9223372036854775807 ∧ SlRsP P w.heap.size w A X
theorem RowsP.is {P : Nat → Prop} {w : World} {X : List RL.R} {v : Value} (h : RowsP P w X v) : RowsIs w X v := by
  obtain ⟨A, C, h1, h2, h3, h4⟩ := h
  exact ⟨A, C, h1, h2, h3, h4.sl⟩

/-- append of headers to a list of headers of the call's own (the reference's rows). -/
theorem appG {w : World} {ops : Array Oper} {rest : List Oper} {o : Oper} {a : Act} {Q : Exit → Act → World → Prop} (hgd : o.guard = none) (s x : Operand)
    (ho : o.op = .call { callee := .builtin .append, args := #[s, x], argTypes := #[30, 30] })
    (base : Nat) (v : Value) (n : Nat) (hs : List Value) (hs0 : a.eval s = v) (hown : w.ownsRow base 39 1 v n hs)
    (A : Option Addr) (m C : Nat) (ns : List Value) (hm : ns.length = m) (hx : a.eval x = .slice A m C) (hcell : ∀ ad, A = some ad → ∀ j u, ns[j]? = some u → w.cell? (ad.add j) = some u) (hnone : A = none → ns = []) (ho1 : ∀ u ∈ ns, u.oneCell' = true)
    (hn : (n + m) * 24 ≤ 140737488355328) (hbase : base ≤ w.heap.size)
    (h : ∀ v' w', w'.ownsRow base 39 1 v' (n + m) (hs ++ ns) → w.grownBy w' v.ownBlock → (v'.ownBlock = v.ownBlock ∨ v'.ownBlock = some w.heap.size) → wpList Try.prog ops Q rest (a.put o.dst v') w') : wpList Try.prog ops Q (o :: rest) a w := by
  subst hm
  obtain ⟨i0, hi0, hz0, hz1, hz2⟩ := info_parts r7rowInfo
  refine wpList_plain hgd fun K hK => ?_
  rcases A with _ | ad
  · have hy := hnone rfl
    subst hy
    have hrun := run_append_none (P := Try.prog) w base 30 o.type 39 i0 1 Try.underlying30 hi0 v n hs hown C
    unfold Oper.wp execOp
    simp only [List.length_nil] at hx
    simp only [ho, resolve, invoke, builtin, Sem.run_bind, Sem.run_pure, Result.andThen_ok, List.map_toArray, List.map_cons, List.map_nil, hs0, hx, hrun]
    exact hK _ _ (h v w (by rw [List.append_nil]; exact hown) ⟨rfl, rfl, rfl, Nat.le_refl _, fun _ _ _ => rfl⟩ (.inl rfl))
  · obtain ⟨v', w', hrun, k2, k3, _, k5⟩ := run_append_own_at (P := Try.prog) w base 30 o.type 39 i0 _ 1 24 Try.underlying30 hi0 hz0 hz1 hz2 rfl (by decide) v n hs hown ad ns.length C ns (by omega) (hcell ad rfl) ho1 (by simp only [maxLen]; omega) (by omega) hbase
    unfold Oper.wp execOp
    simp only [ho, resolve, invoke, builtin, Sem.run_bind, Sem.run_pure, Result.andThen_ok, List.map_toArray, List.map_cons, List.map_nil, hs0, hx, hrun]
    exact hK _ _ (h v' w' k2 k3 k5)
theorem appG1 {w : World} {ops : Array Oper} {rest : List Oper} {o : Oper} {a : Act} {Q : Exit → Act → World → Prop} (hgd : o.guard = none) (s x : Operand)
    (ho : o.op = .call { callee := .builtin .append, args := #[s, x], argTypes := #[30, 30] })
    (base : Nat) (v : Value) (n : Nat) (hs : List Value) (hs0 : a.eval s = v) (hown : w.ownsRow base 39 1 v n hs)
    (gt : Nat) (u : Value) (hx : a.eval x = .slice (some ⟨gt, 0, none⟩) 1 1) (hg : w.cell? ⟨gt, 0, none⟩ = some u) (ho1 : u.oneCell' = true)
    (hn : (n + 1) * 24 ≤ 140737488355328) (hbase : base ≤ w.heap.size)
    (h : ∀ v' w', w'.ownsRow base 39 1 v' (n + 1) (hs ++ [u]) → w.grownBy w' v.ownBlock → (v'.ownBlock = v.ownBlock ∨ v'.ownBlock = some w.heap.size) → wpList Try.prog ops Q rest (a.put o.dst v') w') : wpList Try.prog ops Q (o :: rest) a w :=
  appG hgd s x ho base v n hs hs0 hown (some ⟨gt, 0, none⟩) 1 1 [u] rfl hx (fun ad e j u' hu => by
    injection e with e
    subst e
    rw [Addr.add_lit]
    cases j with
    | zero => simp at hu; subst hu; exact hg
    | succ j => simp at hu) (fun e => by cases e) (by simpa using ho1) hn hbase h

theorem elemR7 : Try.prog.elem 30 = 39 := by kernel_rfl
theorem underR7 : Try.prog.underlying 30 = some (.slice (Try.prog.elem 30)) := by kernel_rfl
theorem slTail7 (A : Option Addr) (len cap k : Nat) (h : k ≤ len) (W : World) : (Instr.slice 30 (.slice A len cap) (some (.int .i64 (k : Int))) none none).run Try.prog W = .ok (.slice (tailA A k cap) (len - k) (cap - k)) W := by
  rw [run_slice_l W 30 A len cap underR7 .i64 k (by omega) (by omega), elemR7, Try.sizeOf39]
  simp [tailA, sliced, Result.andThen]
theorem slHead7 (A : Option Addr) (len cap k : Nat) (h : k ≤ cap) (W : World) : (Instr.slice 30 (.slice A len cap) none (some (.int .i64 (k : Int))) none).run Try.prog W = .ok (.slice A k cap) W := by
  rw [run_slice_h W 30 A len cap underR7 .i64 k (by omega) (by omega), elemR7, Try.sizeOf39]
  cases A <;> simp [sliced, Addr.add, Result.andThen]

set_option maxHeartbeats 2000000 in
set_option maxRecDepth 100000 in
theorem r7Insert_P (P : Nat → Prop) (XA A : Option Addr) (XC C : Nat) (X : List RL.R) (r : RL.R) (w : World) (hX : SlRsP P w.heap.size w XA X) (hPn : ∀ b, w.heap.size ≤ b → P b) (hr : HR P w.heap.size w (.slice A r.length C) r) (hXl : X.length ≤ 100000) (hXo : RsOk X) (hro : ROk r) (hXc : X.length ≤ XC) (hXm : XC ≤ 9223372036854775807) :
    Calls Try.prog 40 #[.slice XA X.length XC, .slice A r.length C] w fun e w' => ∃ v, e = .returned v ∧ RowsP P w' (RL.insF X r) v ∧ Below w.heap.size w w' := by
  have HX := Lib.hid hX
  have HR := Lib.hid hr
  have HPN := Lib.hid hPn
  have HC := Lib.hid (r7Search_any XA A XC C X r w hX.sl (by obtain ⟨A', C', e, -, -, h4, -⟩ := hr; injection e with e1 _ _; subst e1; exact h4) (by omega) hXo hro)
  have hrk := RL.rank_le X r
  clear hX hr hXo hro hPn
  by_cases hm : r ∈ X
  · have HI : Hid (RL.insF X r = X) := by show _ = _; unfold RL.insF; rw [if_pos hm]
    have hd : decide (r ∈ X) = true := by simpa using hm
    rw [hd] at HC
    clear hm hd
    go_enter Try.func40, Try.ntmps40
    go_wp2_with fail
    refine HC.out.mono ?_
    rintro e w1 ⟨rfl, hx1⟩
    go_wp2
    go_ret
    refine ⟨_, rfl, ?_, hx1.below⟩
    rw [HI.out]
    exact ⟨XA, XC, rfl, hXc, hXm, (HX.out.keep (fun p hp _ => hx1.below.cell hp)).more hx1.size⟩
  · have HI : Hid (RL.insF X r = X.take (RL.rank X r) ++ [r] ++ X.drop (RL.rank X r)) := by show _ = _; unfold RL.insF; rw [if_neg hm]; simp
    have hd : decide (r ∈ X) = false := by simpa using hm
    rw [hd] at HC
    clear hm hd
    generalize RL.rank X r = k at *
    have hst := slTail7 XA X.length XC k hrk
    have hsh := slHead7 XA X.length XC k (by omega)
    obtain ⟨TA, hTA⟩ : ∃ TA, TA = tailA XA k XC := ⟨_, rfl⟩
    rw [← hTA] at hst
    have HTAIL : Hid (SlRsP P w.heap.size w TA (X.drop k)) := by rw [hTA]; exact HX.out.tail hXc k
    have HHEAD := Lib.hid (HX.out.head k)
    have htl : (X.take k).length = k := by simp; omega
    have hdl : (X.drop k).length = X.length - k := by simp
    clear hTA
    obtain ⟨h1s, hH1, hc1, hnn1⟩ := HHEAD.out.hdrs2
    obtain ⟨h2s, hH2, hc2, hnn2⟩ := HTAIL.out.hdrs2
    have e1l := hH1.1
    have e2l := hH2.1
    rw [htl] at e1l
    rw [hdl] at e2l
    have HH1 := Lib.hid hH1
    have HH2 := Lib.hid hH2
    have HC1 := Lib.hid hc1
    have HC2 := Lib.hid hc2
    have HN1 := Lib.hid hnn1
    have HN2 := Lib.hid hnn2
    have HL1 := Lib.hid e1l
    have HL2 := Lib.hid e2l
    clear hH1 hH2 hc1 hc2 hnn1 hnn2 e1l e2l htl hdl HTAIL HHEAD
    go_enter Try.func40, Try.ntmps40
    go_wp2_with fail
    refine HC.out.mono ?_
    rintro e w1 ⟨rfl, hx1⟩
    have hz1 := hx1.size
    have HB1 := Lib.hid hx1.below
    clear hx1 HC
    have HO1 := Lib.hid (own_nil w1 w.heap.size 39 1)
    go_wp2_with (first
      | (at_builtin; refine appG rfl (.tmp 16) (.tmp 19) rfl w.heap.size (.slice none 0 0) 0 [] rfl HO1.out XA k XC h1s HL1.out rfl (HC1.out _ (fun p hp _ => HB1.out.cell (by omega))) HN1.out HH1.out.cells (by omega) hz1 ?_
         intro v2 w2 hown2 hg2 _
         have HO2 := Lib.hid (hown2.alloc (.cells #[.slice A r.length C] 39))
         have hb2 := Below.then HB1.out (app_grown (B := w.heap.size) hg2 (fun k hk => by simp [Value.ownBlock] at hk) hz1) (Nat.le_refl _)
         have hz2 := hb2.size
         have HB2 := Lib.hid (hb2.alloc hz2 (.cells #[.slice A r.length C] 39))
         clear hown2 hg2 hb2)
      | (at_builtin; refine appG1 rfl (.tmp 21) (.tmp 23) rfl w.heap.size v2 (0 + k) ([] ++ h1s) rfl HO2.out w2.heap.size (.slice A r.length C) rfl (by go_simp) rfl (by omega) (by simp; omega) ?_
         intro v3 w3 hown3 hg3 _
         have HO3 := Lib.hid hown3
         have HB3 := Lib.hid (Below.then HB2.out (app_grown (B := w.heap.size) hg3 (fun g hk => own_base HO2.out hk) (by simp; omega)) (Nat.le_refl _))
         have hz3 := HB3.out.size
         clear hown3 hg3)
      | (at_builtin; refine appG rfl (.tmp 25) (.tmp 28) rfl w.heap.size v3 (0 + k + 1) ([] ++ h1s ++ [.slice A r.length C]) rfl HO3.out TA (X.length - k) (XC - k) h2s HL2.out rfl (HC2.out _ (fun p hp _ => HB3.out.cell (by omega))) HN2.out HH2.out.cells (by omega) hz3 ?_
         intro v4 w4 hown4 hg4 _
         have HO4 := Lib.hid hown4
         have HB4 := Lib.hid (Below.then HB3.out (app_grown (B := w.heap.size) hg4 (fun g hk => own_base HO3.out hk) hz3) (Nat.le_refl _))
         clear hown4 hg4)
      | fail)
    go_ret
    refine ⟨_, rfl, ?_, HB4.out⟩
    rw [HI.out]
    have hk : ∀ p : Addr, p.block < w.heap.size → P p.block → w4.cell? p = w.cell? p := fun p hp _ => HB4.out.cell hp
    have hH := ((HH1.out.keep hk).append (Hdrs.one (HR.out.keep hk))).append (HH2.out.keep hk)
    have ho := HO4.out
    rw [List.nil_append] at ho
    rw [show 0 + k + 1 + (X.length - k) = (X.take k ++ [r] ++ X.drop k).length by simp; omega] at ho
    exact own_slrs ho hH HB4.out.size HPN.out

set_option maxHeartbeats 1000000 in
set_option maxRecDepth 100000 in
theorem r7Delete_P (P : Nat → Prop) (XA A : Option Addr) (XC C : Nat) (X : List RL.R) (r : RL.R) (w : World) (hX : SlRsP P w.heap.size w XA X) (hPn : ∀ b, w.heap.size ≤ b → P b) (hr : SlR w.heap.size w A r) (hXl : X.length ≤ 100000) (hXo : RsOk X) (hro : ROk r) :
    Calls Try.prog 41 #[.slice XA X.length XC, .slice A r.length C] w fun e w' => ∃ v, e = .returned v ∧ RowsP P w' (RL.delF X r) v ∧ Below w.heap.size w w' := by
  have HX := Lib.hid hX
  have HR := Lib.hid hr
  have HXO := Lib.hid hXo
  have HRO := Lib.hid hro
  have HPN := Lib.hid hPn
  clear hX hXo hr hro hPn
  go_enter Try.func41, Try.ntmps41
  go_wp2
  go_loopw [5, 6] (fun v i wr => ∃ (k : Nat) (hs : List Value), k ≤ X.length ∧ i = .int .i64 k ∧ wr.ownsRow w.heap.size 39 1 v ((X.take k).filter fun y => !decide (RL.cmpR y r = 0)).length hs ∧ Hdrs P w.heap.size wr hs ((X.take k).filter fun y => !decide (RL.cmpR y r = 0)) ∧ Below w.heap.size w wr) (fun _ i _ => X.length - (intOf i).toNat)
  case atStart => exact ⟨0, [], Nat.zero_le _, rfl, own_nil _ _ _ _, Hdrs.nil, Below.refl _ _⟩
  case round =>
    obtain ⟨k, hs, hka, rfl, hown, hH, hbel⟩ := hrel
    have HO := Lib.hid hown
    have HH := Lib.hid hH
    have HB := Lib.hid hbel
    have hzz := hbel.size
    have hfl := filt_take_le (fun y => !decide (RL.cmpR y r = 0)) X k
    clear hown hH
    by_cases h1 : k < X.length
    · obtain ⟨b, o, A1, C1, rfl, hb, -, c1, hhr⟩ := HX.out.at_ h1
      have d1 := (hbel.cell (p := ⟨b, o + k, none⟩) hb).trans c1
      have HHR := Lib.hid (hhr.keep (w' := wr) (fun p hp _ => hbel.cell hp))
      have HC := Lib.hid (r7Compare_any A1 A C1 C X[k] r wr (by obtain ⟨A', C', e, -, -, h4, -⟩ := HHR.out; injection e with e1 _ _; subst e1; exact h4.more hzz) ((HR.out.below hbel (Nat.le_refl _)).more hzz) (HXO.out.at_ h1) HRO.out)
      have HN := Lib.hid (filt_snoc (fun y => !decide (RL.cmpR y r = 0)) X k h1)
      clear c1 hhr hbel
      generalize X[k] = x at d1 HC HN HHR
      generalize (X.take k).filter (fun y => !decide (RL.cmpR y r = 0)) = F at HO HN hfl HH
      go_wp2_with fail
      refine HC.out.mono ?_
      rintro e w1 ⟨rfl, hx1⟩
      have d2 := (hx1.cell (o := o + k) (show b < wr.heap.size by omega)).trans d1
      have HB1 := Lib.hid (Below.then HB.out hx1.below hzz)
      have HO1 := Lib.hid (own_keep HO.out hx1.below)
      have HH1 := Lib.hid (HH.out.keep (w' := w1) (fun p hp _ => hx1.below.cell (by omega)))
      have HHR1 := Lib.hid (HHR.out.keep (w' := w1) (fun p hp _ => hx1.below.cell (by omega)))
      have hz1 := HB1.out.size
      clear hx1 HC d1 HO HH HHR
      by_cases hq : RL.cmpR x r = 0
      · have hq2 : (RL.cmpR x r != 0) = false := by simpa using hq
        have HN2 := Lib.hid (HN.out.trans (by simp [hq] : _ = F))
        clear hq HN
        generalize RL.cmpR x r = q at *
        go_wp2
        go_roundw
        case rel => exact ⟨k + 1, hs, by omega, by go_num, by rw [HN2.out]; exact HO1.out, by rw [HN2.out]; exact HH1.out, HB1.out⟩
        case measure => simp [intOf]; omega
      · have hq2 : (RL.cmpR x r != 0) = true := by simpa using hq
        have HN2 := Lib.hid (HN.out.trans (by simp [hq] : _ = F ++ [x]))
        have HO2 := Lib.hid (HO1.out.alloc (.cells #[.slice A1 x.length C1] 39))
        have HB2 := Lib.hid (HB1.out.alloc hz1 (.cells #[.slice A1 x.length C1] 39))
        clear hq HN
        generalize RL.cmpR x r = q at *
        go_wp2_with (at_builtin; refine appG1 rfl (.tmp 20) (.tmp 25) rfl w.heap.size u5 F.length hs rfl HO2.out w1.heap.size (.slice A1 x.length C1) rfl (by go_simp) rfl (by omega) (by simp; omega) ?_
                     intro v4 w4 hown4 hg4 _
                     have HO4 := Lib.hid hown4
                     have hb14 : Below w.heap.size w1 w4 := Below.then ((Below.refl w.heap.size w1).alloc hz1 (.cells #[.slice A1 x.length C1] 39)) (app_grown (B := w.heap.size) hg4 (fun g hk => own_base HO2.out hk) (by simp; omega)) (Nat.le_refl _)
                     have HB4 := Lib.hid (Below.then HB1.out hb14 (Nat.le_refl _))
                     have HH4 := Lib.hid ((HH1.out.keep (w' := w4) (fun p hp _ => hb14.cell hp)).append (Hdrs.one (HHR1.out.keep (w' := w4) (fun p hp _ => hb14.cell hp))))
                     clear hown4 hg4 hb14 d2)
        go_roundw
        case rel => exact ⟨k + 1, _, by omega, by go_num, by rw [HN2.out, List.length_append]; exact HO4.out, by rw [HN2.out]; exact HH4.out, HB4.out⟩
        case measure => simp [intOf]; omega
    · have HT := Lib.hid (List.take_of_length_le (show X.length ≤ k by omega))
      rw [HT.out] at HO HH
      go_wp2
      go_ret
      exact ⟨_, rfl, own_slrs HO.out HH.out hzz HPN.out, hbel⟩

end Go.Proofs.Ytiopkooigeaneaa

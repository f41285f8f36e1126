/- Parts of the proof, merged: Y11, Y12, Y13, Y14, Y15. -/
import Derived.Test.YtiomelogggilgaaQ8
import Derived.Test.YtiomelogggilgaaQ2

section
/- Walk: leapfrog's run. -/
namespace Go.Proofs.Ytiomelogggilgaa
open Go.RowKit Go.Sort

/-- What run leaves. -/
def RunPost (n : Nat) (l : List At) (go : List RL.R → Bool) (Inv : List RL.R → (Nat → Prop) → World → Prop) (L : List RL.R) (O0 : Nat → Prop) (w : World) (e : Ending) (w' : World) : Prop :=
  ∃ st : Nat, e = .returned (.tuple #[.int .i64 st, .int .i64 0]) ∧ (feed go L (joinF n l)).1.length - L.length ≤ st ∧ st ≤ 8000000000000000000 ∧
    ∃ O' : Nat → Prop, Inv (feed go L (joinF n l)).1 O' w' ∧ (∀ b, O' b → b < w'.heap.size ∧ (O0 b ∨ w.heap.size ≤ b)) ∧ Chg O0 w w'
/-- What run asks of its atoms. -/
structure RAOk (n M : Nat) (a : RA) : Prop where
  at_ : a.at.Ok n
  nn : ∀ v ∈ a.vs, 0 ≤ v
  ar : a.ar = a.vs.length
  ok : RsOk a.P
  len : a.P.length ≤ 60000
  M : ∀ q, (RL.kids a.at.d a.at.P q).length ≤ M
/-- What the first region of run makes. -/
def Made0 (n : Nat) (yv : Value) (w : World) (p : Value) (wx : World) : Prop :=
  ∃ rb ab jb, p = .pointer (some ⟨jb, 0, none⟩) ∧ Row wx jb 105 [.slice (some ⟨rb, 0, none⟩) n n, .slice (some ⟨ab, 0, none⟩) n n, .int .i64 0, yv] ∧ Row wx rb 41 (rcells (List.replicate n zv0)) ∧ Row wx ab 106 (List.replicate n (.slice none 0 0)) ∧ Ext w wx ∧ w.heap.size ≤ rb ∧ w.heap.size ≤ ab ∧ w.heap.size ≤ jb ∧ jb ≠ rb ∧ jb ≠ ab ∧ rb ≠ ab
theorem made0_a (n : Nat) (yv : Value) (w : World) : Made0 n yv w (.pointer (some ⟨w.heap.size + 1 + 1, 0, none⟩)) (((w.alloc (.cells (zerosV n) 41)).alloc (.cells (zerosA (.slice none 0 0) n) 106)).alloc (.cells #[.slice (some ⟨w.heap.size, 0, none⟩) n n, .slice (some ⟨w.heap.size + 1, 0, none⟩) n n, .int .i64 0, yv] 105)).drew := by
  have h1 : Row (w.alloc (.cells (zerosV n) 41)) w.heap.size 41 (rcells (List.replicate n zv0)) := Row.new w 41 (rcells (List.replicate n zv0))
  have h2 := Row.zeros (w.alloc (.cells (zerosV n) 41)) 106 (.slice none 0 0) n
  have h3 := Row.new ((w.alloc (.cells (zerosV n) 41)).alloc (.cells (zerosA (.slice none 0 0) n) 106)) 105 [.slice (some ⟨w.heap.size, 0, none⟩) n n, .slice (some ⟨w.heap.size + 1, 0, none⟩) n n, .int .i64 0, yv]
  simp only [World.size_alloc] at h2 h3
  exact ⟨w.heap.size, w.heap.size + 1, w.heap.size + 1 + 1, rfl, h3.drew, ((h1.alloc _).alloc _).drew, (h2.alloc _).drew, ((((Ext.refl w).alloc _).alloc _).alloc _).drew, by omega, by omega, by omega, by omega, by omega, by omega⟩
theorem made0_b (n : Nat) (yv : Value) (w : World) : Made0 n yv w (.pointer (some ⟨w.heap.size + 1 + 1, 0, none⟩)) (((w.alloc (.cells (zerosA (.slice none 0 0) n) 106)).alloc (.cells (zerosV n) 41)).alloc (.cells #[.slice (some ⟨w.heap.size + 1, 0, none⟩) n n, .slice (some ⟨w.heap.size, 0, none⟩) n n, .int .i64 0, yv] 105)).drew := by
  have h1 := Row.zeros w 106 (.slice none 0 0) n
  have h2 : Row ((w.alloc (.cells (zerosA (.slice none 0 0) n) 106)).alloc (.cells (zerosV n) 41)) (w.alloc (.cells (zerosA (.slice none 0 0) n) 106)).heap.size 41 (rcells (List.replicate n zv0)) := Row.new (w.alloc (.cells (zerosA (.slice none 0 0) n) 106)) 41 (rcells (List.replicate n zv0))
  have h3 := Row.new ((w.alloc (.cells (zerosA (.slice none 0 0) n) 106)).alloc (.cells (zerosV n) 41)) 105 [.slice (some ⟨w.heap.size + 1, 0, none⟩) n n, .slice (some ⟨w.heap.size, 0, none⟩) n n, .int .i64 0, yv]
  simp only [World.size_alloc] at h2 h3
  exact ⟨w.heap.size + 1, w.heap.size, w.heap.size + 1 + 1, rfl, h3.drew, (h2.alloc _).drew, ((h1.alloc _).alloc _).drew, ((((Ext.refl w).alloc _).alloc _).alloc _).drew, by omega, by omega, by omega, by omega, by omega, by omega⟩
/-- The numbers of the first k atoms that have a variable. -/
def ixK (l : List At) (k v : Nat) : List Nat := (List.range k).filter fun i => decide (v ∈ (l.getD i default).vs)
theorem ixK_all (l : List At) (v : Nat) : ixK l l.length v = idxV l v := rfl
theorem ixK_succ (l : List At) (k v : Nat) : ixK l (k + 1) v = ixK l k v ++ if v ∈ (l.getD k default).vs then [k] else [] := by
  unfold ixK
  rw [List.range_succ, List.filter_append]
  congr 1
  by_cases h : v ∈ (l.getD k default).vs
  · rw [if_pos h, List.filter_cons_of_pos (by simpa using h)]; rfl
  · rw [if_neg h, List.filter_cons_of_neg (by simpa using h)]; rfl
theorem joinF_none {n : Nat} {l : List At} (h : ∃ a ∈ l, a.P = []) : joinF n l = [] := by
  unfold joinF
  obtain ⟨a, ha, e⟩ := h
  rw [if_pos (List.any_eq_true.2 ⟨a, ha, by simpa using e⟩)]
theorem joinF_some {n : Nat} {l : List At} (h : ∀ a ∈ l, a.P ≠ []) : joinF n l = joinN l n [] := by
  unfold joinF
  rw [if_neg]
  intro hh
  obtain ⟨a, ha, e⟩ := List.any_eq_true.1 hh
  exact h a ha (by simpa using e)
theorem own_ne_row {w : World} {base : Nat} {e e' : TypeId} {size : Nat} {v : Value} {n : Nat} {xs ys : List Value} {g : Nat} (h : w.ownsRow base e size v n xs) (hr : Row w g e' ys) (hne : e ≠ e') : v.ownBlock ≠ some g := by
  rcases h.2 with ⟨rfl, _⟩ | ⟨g', cap, cur, rfl, _, hh, _⟩
  · simp [Value.ownBlock]
  · intro e1
    simp [Value.ownBlock] at e1
    subst e1
    have h9 := hh.symm.trans hr
    injection h9 with h9
    injection h9 with _ h9 _
    exact hne h9

set_option maxHeartbeats 8000000 in
set_option maxRecDepth 100000 in
theorem lfRun_any (n : Nat) (AA : Option Addr) (AC : Nat) (X : List RA) (yf : Nat) (cap : Array Value) (go : List RL.R → Bool) (Inv : List RL.R → (Nat → Prop) → World → Prop) (N M : Nat) (hY : Yield yf cap go Inv N 64) (L : List RL.R) (O0 : Nat → Prop) (w : World) (hA : AtsM w.heap.size w AA X)
    (hok : ∀ a ∈ X, RAOk n M a) (hu : ∀ v, v < n → ∃ a ∈ X, v ∈ a.at.vs) (hn : n ≤ 32) (hXl : X.length ≤ 32) (hc : costN M (meetN 64 M) n * 200002 ≤ 100000000000000000) (hI : Inv L O0 w) (hO : ∀ b, O0 b → b < w.heap.size) (hL : L.length + (joinF n (X.map RA.at)).length ≤ N) :
    Calls Try.prog 30 #[.int .i64 n, .slice AA X.length AC, .func (.func yf) #[] cap] w (RunPost n (X.map RA.at) go Inv L O0 w) := by
  have HY := Lib.hid hY
  have HA := Lib.hid hA
  have HOK := Lib.hid hok
  have HU := Lib.hid hu
  have HCO := Lib.hid hc
  have HI := Lib.hid hI
  have HO := Lib.hid hO
  have HL := Lib.hid hL
  have hmk1 := makeVals n (by omega)
  have hmk2 := makeItps n (by omega)
  have HMK := Lib.hid (makeInts35)
  clear hY hA hok hu hc hI hO hL
  go_enter Try.func30, Try.ntmps30
  go_wp2
  go_cut [8] (Made0 n (.func (.func yf) #[] cap) w)
  case first =>
    go_region
    all_goals
      go_wp2_with fail
      go_meet
      first
        | exact made0_a n _ w
        | exact made0_b n _ w
        | fail
  case rest =>
    obtain ⟨rb, ab, jb, rfl, hj, hr, ha, hx, b1, b2, b3, b4, b5, b6⟩ := hcut
    have HJ := Lib.hid hj
    have HR := Lib.hid hr
    have HAB := Lib.hid ha
    have HX := Lib.hid hx
    have HBS := Lib.hid (And.intro b1 (And.intro b2 (And.intro b3 (And.intro b4 (And.intro b5 b6)))))
    have HLEN := Lib.hid (fun (a : RA) PA PC W => rlLen_any a.ar PA a.P.length PC W)
    have hzc := hx.size
    clear hj hr ha hx b1 b2 b3 b4 b5 b6 hmk1 hmk2
    go_wp2
    go_loopw [32] (fun c wr => ∃ k : Nat, k ≤ X.length ∧ c = .int .i64 k ∧ Ext wc wr ∧ ∀ j (hj : j < X.length), j < k → X[j].P ≠ []) (fun c _ => X.length - (intOf c).toNat)
    case atStart => exact ⟨0, Nat.zero_le _, rfl, Ext.refl _, fun j _ h => absurd h (by omega)⟩
    case round =>
      obtain ⟨k, hk, rfl, hx, hne⟩ := hrel
      have HXW := Lib.hid hx
      have HNE := Lib.hid hne
      clear hx hne
      by_cases h1 : k < X.length
      · have HAW := Lib.hid (HA.out.upB (HX.out.trans HXW.out).below)
        obtain ⟨b, o, VA, VC, PA, PC, rfl, hb, c0, c1, c2, -⟩ := ats_at HAW.out h1
        have HL1 := Lib.hid (HLEN.out X[k] PA PC)
        have hw1 : IntKind.i64.wrap ((k : Int) + 1) = ((k + 1 : Nat) : Int) := by rw [IntWalk.i64_in _ (by omega)]; omega
        have g1 : (0 : Int) ≤ (k : Int) := by omega
        have g2 : (k : Int) < (X.length : Int) := by omega
        have hx1 : Ext wr (wr.alloc (.cells #[.slice VA X[k].vs.length VC, .int .i64 X[k].ar, .slice PA X[k].P.length PC] 52)) := (Ext.refl wr).alloc _
        have HX1 := Lib.hid (HXW.out.trans hx1)
        clear hx1
        have HE : Hid (X[k].P = [] ↔ X[k].P.length = 0) := List.length_eq_zero_iff.symm
        have HPL : Hid (X[k].P.length = X[k].P.length) := rfl
        generalize hpl : X[k].P.length = pl at c2 HL1 HE HX1
        clear hpl HPL
        generalize X[k].vs.length = vl at *
        generalize X[k].ar = ar at *
        by_cases hz : pl = 0
        · have hz2 : ((pl : Int) == 0) = true := by rw [hz]; rfl
          have HZ := Lib.hid (HE.out.2 hz)
          clear hz
          go_wp2_with fail
          refine (HL1.out _).mono ?_
          rintro e w2 ⟨rfl, hx2⟩
          have hx3 := HX1.out.trans hx2
          have HX3 := Lib.hid (HX.out.trans hx3)
          clear hx2 hx3
          go_wp2
          go_ret2
          have hj : joinF n (X.map RA.at) = [] := joinF_none ⟨X[k].at, List.mem_map.2 ⟨_, List.getElem_mem h1, rfl⟩, HZ.out⟩
          refine ⟨0, rfl, by rw [hj, feed_nil]; simp, by omega, O0, ?_, fun b hb => ⟨Nat.lt_of_lt_of_le (HO.out b hb) HX3.out.size, .inl hb⟩, Chg.of_ext HX3.out⟩
          rw [hj, feed_nil]
          exact HY.out.keep L O0 w w2 HI.out HO.out (fun b hb => HX3.out.below.block b (HO.out b hb)) HX3.out.size
        · have hz2 : ((pl : Int) == 0) = false := by rw [beq_eq_false_iff_ne]; omega
          have HZ : Hid (X[k].P ≠ []) := fun e => hz (HE.out.1 e)
          clear hz
          go_wp2_with fail
          refine (HL1.out _).mono ?_
          rintro e w2 ⟨rfl, hx2⟩
          have HX3 := Lib.hid (HX1.out.trans hx2)
          clear hx2
          go_wp2
          go_roundw
          case rel =>
            refine ⟨k + 1, h1, rfl, HX3.out, fun j hj hlt => ?_⟩
            rcases Nat.lt_or_ge j k with h | h
            · exact HNE.out j hj h
            · have : j = k := by omega
              subst this
              exact HZ.out
          case measure => simp [intOf]; omega
      have HNEA : Hid (∀ a ∈ X.map RA.at, a.P ≠ []) := fun a ha => by
        obtain ⟨r, hr, rfl⟩ := List.mem_map.1 ha
        obtain ⟨j, hj, rfl⟩ := List.getElem_of_mem hr
        exact HNE.out j hj (by omega)
      have HXW2 := Lib.hid (HX.out.trans HXW.out)
      have hzw := HXW.out.size
      have HB1 := Lib.hid (Below.trans (B := w.heap.size) HX.out.below (HXW.out.below.mono hzc))
      have HBL0 : Hid (Bld wc.heap.size n jb rb ab (.func (.func yf) #[] cap) ⟨X.map RA.at, fun _ => 0, fun _ => none, fun _ => 0, fun _ => 0⟩ (fun _ => 0) wr 0 0 (.slice none 0 0) (ixK (X.map RA.at) 0)) := by
        obtain ⟨b1, b2, b3, b4, b5, b6⟩ := HBS.out
        exact Bld.start _ (HJ.out.up HXW.out.below) (HR.out.up HXW.out.below) (HAB.out.up HXW.out.below) HJ.out.lt HR.out.lt HAB.out.lt b4 b5 b6 hzw _ (fun v => rfl)
      have hmi := HMK.out
      clear HMK HNE HLEN
      obtain ⟨w1, hw1⟩ : ∃ w1, w1 = wr := ⟨_, rfl⟩
      subst hw1
      go_wp2_with fail
      go_loopw [11, 43] (fun av c wr => ∃ (k : Nat) (I : Its) (lo : Nat → Nat), k ≤ X.length ∧ c = .int .i64 k ∧ I.l = X.map RA.at ∧ Bld wc.heap.size n jb rb ab (.func (.func yf) #[] cap) I lo wr k k av (ixK (X.map RA.at) k) ∧ Below w.heap.size w wr) (fun _ c _ => X.length - (intOf c).toNat)
      case atStart => exact ⟨0, _, _, Nat.zero_le _, rfl, rfl, HBL0.out, HB1.out⟩
      case round =>
        obtain ⟨k2, I, lo, hk2, rfl, hIl, hbld, hbw⟩ := hrel
        have HIL := Lib.hid hIl
        have HBLD := Lib.hid hbld
        have HBW := Lib.hid hbw
        clear hIl hbld hbw HBL0
        obtain ⟨wo, hwo⟩ : ∃ wo, wo = wr := ⟨_, rfl⟩
        subst hwo
        by_cases h2 : k2 < X.length
        · obtain ⟨b, o, VA, VC, PA, PC, rfl, hbl, c0, c1, c2, q1, q2, q3, q4, q5, q6⟩ := ats_at HA.out h2
          have c0 := (HBW.out.cell (p := ⟨b, o + k2 * 3, none⟩) hbl).trans c0
          have c1 := (HBW.out.cell (p := ⟨b, o + k2 * 3 + 1, none⟩) hbl).trans c1
          have c2 := (HBW.out.cell (p := ⟨b, o + k2 * 3 + 2, none⟩) hbl).trans c2
          have hb := Nat.lt_of_lt_of_le hbl HBW.out.size
          have HRA := Lib.hid (HOK.out X[k2] (List.getElem_mem h2))
          have HVS := Lib.hid q5
          have HPS := Lib.hid q6
          have HIA : Hid (I.a k2 = X[k2].at) := by
            show I.l.getD k2 default = _
            rw [HIL.out, List.getD_eq_getElem?_getD, List.getElem?_map, List.getElem?_eq_getElem h2]
            rfl
          have HLA : Hid ((X.map RA.at).getD k2 default = X[k2].at) := by
            show _ = _
            rw [List.getD_eq_getElem?_getD, List.getElem?_map, List.getElem?_eq_getElem h2]
            rfl
          clear q5 q6
          generalize X[k2] = r at *
          have g1 : (0 : Int) ≤ (k2 : Int) := by omega
          have g2 : (k2 : Int) < (X.length : Int) := by omega
          have hvl : r.vs.length ≤ 32 := by
            have := asc_len r.at.vs 0 n HRA.out.at_.asc fun v hv => ⟨Nat.zero_le _, HRA.out.at_.lt v hv⟩
            have e : r.at.vs.length = r.vs.length := by show (r.vs.map Int.toNat).length = _; simp
            omega
          have hmi2 := hmi r.vs.length (by omega)
          obtain ⟨W1, hW1⟩ : ∃ W1, W1 = wo.alloc (.cells #[.slice VA r.vs.length VC, .int .i64 r.ar, .slice PA r.P.length PC] 52) := ⟨_, rfl⟩
          have hr1 : Row W1 wo.heap.size 52 [.slice VA r.vs.length VC, .int .i64 r.ar, .slice PA r.P.length PC] := by rw [hW1]; exact Row.new wo 52 _
          have hx1 : Ext wo W1 := by rw [hW1]; exact (Ext.refl wo).alloc _
          obtain ⟨W2, hW2⟩ : ∃ W2, W2 = W1.alloc (.cells (zerosA (.int .i64 0) r.vs.length) 3) := ⟨_, rfl⟩
          have hr2 : Row W2 W1.heap.size 3 (colV r.vs.length 0) := by rw [hW2, colV_zero]; exact Row.zeros W1 3 _ _
          have hx2 : Ext W1 W2 := by rw [hW2]; exact (Ext.refl W1).alloc _
          have hz1 : W1.heap.size = wo.heap.size + 1 := by rw [hW1]; simp
          rw [hz1] at hr2
          have HR1 := Lib.hid (hr1.up hx2.below)
          have HR2 := Lib.hid hr2
          have HX2 := Lib.hid (hx1.trans hx2)
          have HZ1 := Lib.hid hz1
          clear hr1 hx1 hr2 hx2 hz1
          go_wp2_with fail
          rw [← hW1, ← hW2]
          clear hW1 hW2
          go_loopw [53] (fun c wx => ∃ c' : Nat, c' ≤ r.vs.length ∧ c = .int .i64 c' ∧ Row wx (wo.heap.size + 1) 3 (colV r.vs.length c') ∧ Chg (fun b => b = (wo.heap.size + 1)) W2 wx) (fun c _ => r.vs.length - (intOf c).toNat)
          case atStart => exact ⟨0, Nat.zero_le _, rfl, HR2.out, Chg.refl _ _⟩
          case round =>
            obtain ⟨c', hc', rfl, hrow, hch⟩ := hrel
            have HROW := Lib.hid hrow
            have HCH := Lib.hid hch
            have hzc2 := hch.size
            have hcz := hrow.lt
            clear hrow hch HR2
            by_cases h3 : c' < r.vs.length
            · have cc : ∃ u, wr.cell? ⟨wo.heap.size + 1, c', none⟩ = some u := ⟨_, HROW.out.cell_ (by simp [colV, h3])⟩
              obtain ⟨u, cc⟩ := cc
              have cf := HROW.out.frozen c'
              have g3 : (0 : Int) ≤ (c' : Int) := by omega
              have g4 : (c' : Int) < (r.vs.length : Int) := by omega
              have hw1 : IntKind.i64.wrap ((c' : Int) + 1) = ((c' + 1 : Nat) : Int) := by rw [IntWalk.i64_in _ (by omega)]; omega
              go_wp2
              go_roundw
              case rel =>
                refine ⟨c' + 1, h3, rfl, ?_, HCH.out.trans (Chg.set _ _ _ _ rfl)⟩
                rw [← colV_set h3]
                exact HROW.out.set _ _
              case measure => simp [intOf]; omega
            have hce : c' = r.vs.length := by omega
            have HCOL : Hid (SlI .i64 wr.heap.size wr (some ⟨wo.heap.size + 1, 0, none⟩) ((List.range r.vs.length).map fun i : Nat => (i : Int))) := by
              have h := HROW.out
              rw [hce, colV_all] at h
              exact h.sl
            have HBO : Hid (Below wo.heap.size wo wr) := Below.trans HX2.out.below (HCH.out.below HX2.out.size (fun b e => by omega))
            have hax := HR1.out
            have hax2 : Row wr wo.heap.size 52 [.slice VA r.vs.length VC, .int .i64 r.ar, .slice PA r.P.length PC] := HR1.out.chg HCH.out (by omega)
            have HAX := Lib.hid hax2
            have x0 : wr.cell? ⟨wo.heap.size, 0, none⟩ = some (.slice VA r.vs.length VC) := hax2.cell 0
            have x1 : wr.cell? ⟨wo.heap.size, 1, none⟩ = some (.int .i64 r.ar) := hax2.cell 1
            have x2 : wr.cell? ⟨wo.heap.size, 2, none⟩ = some (.slice PA r.P.length PC) := hax2.cell 2
            have HNEW := Lib.hid (trNew_any r.ar PA (some ⟨wo.heap.size + 1, 0, none⟩) PC r.vs.length r.P ((List.range r.vs.length).map fun i : Nat => (i : Int)) wr ((HPS.out.upB HBW.out).upB HBO.out) HCOL.out HRA.out.ok HRA.out.len (by simpa using hvl) (by simp) (by omega) (fun x hx => by
              have h := HRA.out.at_.len x hx
              have e : r.at.vs.length = r.vs.length := by show (r.vs.map Int.toNat).length = _; simp
              rw [h, e, HRA.out.ar]))
            rw [List.length_map, List.length_range] at HNEW
            clear hax hax2 hce
            have HD : Hid ((I.a k2).d = r.vs.length) := by
              show _ = _
              rw [HIA.out]
              show (r.vs.map Int.toNat).length = _
              simp
            have HPP : Hid ((I.a k2).P = r.P) := by show _ = _; rw [HIA.out]; rfl
            go_wp2_with fail
            refine HNEW.out.mono ?_
            rintro e w2 ⟨-, hnew, hb2⟩
            obtain ⟨LA, LC, rfl, htr⟩ := hnew (by rw [HRA.out.ar]; exact cols_ok _)
            rw [proj_rows (d := r.vs.length) (P := r.P) (fun x hx => by
              have h := HRA.out.at_.len x hx
              have e : r.at.vs.length = r.vs.length := by show (r.vs.map Int.toNat).length = _; simp
              rw [h, e]) HRA.out.at_.ss] at htr
            simp only [List.length_map, List.length_range] at htr ⊢
            have HTR : Hid (TrK wr.heap.size w2 LA (I.a k2).d (vsF (I.a k2).d (I.a k2).P) (fsF (I.a k2).d (I.a k2).P)) := by
              show TrK _ _ _ _ _ _
              rw [HD.out, HPP.out]
              exact htr
            have HB2 := Lib.hid hb2
            have HAX2 := Lib.hid (HAX.out.up hb2)
            have x3 : w2.cell? ⟨wo.heap.size, 0, none⟩ = some (.slice VA r.vs.length VC) := HAX2.out.cell 0
            have hzw2 := hb2.size
            have haz : wo.heap.size < w2.heap.size := HAX2.out.lt
            have HIT := Lib.hid (fun W => itIter LA r.vs.length LC (I.a k2).P W)
            obtain ⟨W3, hW3⟩ : ∃ W3, W3 = w2.alloc (.cells #[.slice LA r.vs.length LC] 109) := ⟨_, rfl⟩
            have HX3 : Hid (Ext w2 W3) := by rw [hW3]; exact (Ext.refl w2).alloc _
            clear hnew htr hb2 HNEW HCOL x0 x1 x2
            go_wp2_with fail
            rw [← hW3]
            clear hW3
            refine (HIT.out W3).mono ?_
            rintro e w4 ⟨g, rfl, hg, hit, hb4⟩
            have HBM := Lib.hid ((HBLD.out.up HBO.out).made HB2.out HTR.out HX3.out.below hg (by rw [HD.out]; exact hit) hb4)
            have HB4 : Hid (Below wo.heap.size wo w4) := Below.trans (Below.trans (Below.trans HBO.out (HB2.out.mono HBO.out.size)) (HX3.out.below.mono (Nat.le_trans HBO.out.size HB2.out.size))) (hb4.mono (Nat.le_trans (Nat.le_trans HBO.out.size HB2.out.size) HX3.out.size))
            have HAX4 := Lib.hid ((HAX2.out.up HX3.out.below).up hb4)
            have HGP : Hid (ptrI (I.put k2 g w2.heap.size LA LC) k2 = .pointer (some ⟨g, 0, none⟩)) := by
              show Value.pointer (some ⟨updN I.g k2 g k2, 0, none⟩) = _
              unfold updN
              rw [if_pos rfl]
            have hgz : g < w4.heap.size := hit.lt
            have HUB : Hid (∀ b, u11.ownBlock = some b → wc.heap.size ≤ b ∧ b < wo.heap.size) := fun b hb => ⟨own_base HBLD.out.all hb, own_lt HBLD.out.all b hb⟩
            clear hit hb4 hg HIT HX3 x3 HTR HBLD HAX HAX2
            have hx5 : Ext w4 (w4.alloc (.cells #[.pointer (some ⟨g, 0, none⟩)] 112)) := (Ext.refl w4).alloc _
            have HBM5 := Lib.hid (HBM.out.up hx5.below)
            have HAX5 := Lib.hid (HAX4.out.up hx5.below)
            have HB5 := Lib.hid (Below.trans HB4.out (hx5.below.mono HB4.out.size))
            clear hx5
            have HAP : Hid (∀ (av2 : Value) (w6 : World), w6.ownsRow wc.heap.size 112 1 av2 (k2 + 1) ((List.range k2).map (ptrI (I.put k2 g w2.heap.size LA LC)) ++ [.pointer (some ⟨g, 0, none⟩)]) → (w4.alloc (.cells #[.pointer (some ⟨g, 0, none⟩)] 112)).grownBy w6 u11.ownBlock → (∀ b, av2.ownBlock = some b → u11.ownBlock = some b ∨ (w4.alloc (.cells #[.pointer (some ⟨g, 0, none⟩)] 112)).heap.size ≤ b) →
                Bld wc.heap.size n jb rb ab (.func (.func yf) #[] cap) (I.put k2 g w2.heap.size LA LC) (updN lo k2 wr.heap.size) w6 (k2 + 1) (k2 + 1) av2 (ixK (X.map RA.at) k2) ∧ Row w6 wo.heap.size 52 [.slice VA r.vs.length VC, .int .i64 r.ar, .slice PA r.P.length PC] ∧ Below w.heap.size w w6) := fun av2 w6 hown6 hg6 hat6 =>
              ⟨HBM5.out.app hg6 (by rw [HGP.out]; exact hown6) hat6, HAX5.out.grown hg6 (fun e => by have := (HUB.out _ e.symm).2; omega), Below.trans (Below.trans HBW.out (HB5.out.mono HBW.out.size)) (⟨hg6.os, hg6.tape, hg6.output, hg6.size, fun b hb => hg6.block b (Nat.lt_of_lt_of_le hb (Nat.le_trans HBW.out.size HB5.out.size)) (fun e => by have := (HUB.out _ e.symm).1; omega)⟩ : Below w.heap.size _ w6)⟩
            go_wp2_with
              (at_builtin
               obtain ⟨w3, hw3⟩ : ∃ w3, w3 = wr := ⟨_, rfl⟩
               refine appP rfl (.tmp 73) (.tmp 75) rfl wc.heap.size u11 k2 ((List.range k2).map (ptrI (I.put k2 g w2.heap.size LA LC))) rfl HBM5.out.all w4.heap.size (some ⟨g, 0, none⟩) rfl ((Row.new w4 112 [.pointer (some ⟨g, 0, none⟩)]).cell 0) (by omega) HBM5.out.z ?_
               intro av2 w6 hown6 hg6 hat6
               obtain ⟨hba, hax6, hb6⟩ := HAP.out av2 w6 hown6 hg6 hat6
               subst hw3
               have x4 : w6.cell? ⟨wo.heap.size, 0, none⟩ = some (.slice VA r.vs.length VC) := hax6.cell 0
               have haz6 := hax6.lt
               have HAX6 := Lib.hid hax6
               have HBA := Lib.hid hba
               have HB6 := Lib.hid hb6
               clear hown6 hg6 hat6 hba hax6 hb6)
            have HIXL : Hid (∀ v, (ixK (X.map RA.at) k2 v).length ≤ k2) := fun v => by
              have := List.length_filter_le (fun i => decide (v ∈ ((X.map RA.at).getD i default).vs)) (List.range k2)
              rw [List.length_range] at this
              exact this
            go_loopw [80] (fun c wx => ∃ j : Nat, j ≤ r.vs.length ∧ c = .int .i64 j ∧ Bld wc.heap.size n jb rb ab (.func (.func yf) #[] cap) (I.put k2 g w2.heap.size LA LC) (updN lo k2 w3.heap.size) wx (k2 + 1) (k2 + 1) av2 (fun y => ixK (X.map RA.at) k2 y ++ if y ∈ r.at.vs.take j then [k2] else []) ∧ Row wx wo.heap.size 52 [.slice VA r.vs.length VC, .int .i64 r.ar, .slice PA r.P.length PC] ∧ Below w.heap.size w wx) (fun c _ => r.vs.length - (intOf c).toNat)
            case atStart =>
              refine ⟨0, Nat.zero_le _, rfl, ?_, HAX6.out, HB6.out⟩
              have e : (fun y => ixK (X.map RA.at) k2 y ++ if y ∈ r.at.vs.take 0 then [k2] else []) = ixK (X.map RA.at) k2 := funext fun y => by simp
              rw [e]
              exact HBA.out
            case round =>
              obtain ⟨j, hj, rfl, hbld, hax, hbw⟩ := hrel
              have HBL := Lib.hid hbld
              have HAXJ := Lib.hid hax
              have HBWJ := Lib.hid hbw
              have hzj := hbw.size
              clear hbld hax hbw HBA HAX6 HB6 x4
              by_cases h4 : j < r.vs.length
              · obtain ⟨vb, vo, hva, hvb, vc⟩ := slI_at HVS.out h4
                subst hva
                have vc := (HBWJ.out.cell (p := ⟨vb, vo + j, none⟩) hvb).trans vc
                have hvb2 := Nat.lt_of_lt_of_le hvb hzj
                have hv0 := HRA.out.nn _ (List.getElem_mem h4)
                have hvn : (r.vs[j]).toNat < n := HRA.out.at_.lt _ (List.mem_map.2 ⟨_, List.getElem_mem h4, rfl⟩)
                have HTJ : Hid (r.at.vs.take (j + 1) = r.at.vs.take j ++ [(r.vs[j]).toNat]) := by
                  show List.take (j + 1) (r.vs.map Int.toNat) = List.take j (r.vs.map Int.toNat) ++ _
                  rw [List.take_succ_eq_append_getElem (by simpa using h4), List.getElem_map]
                have HNT : Hid ((r.vs[j]).toNat ∉ r.at.vs.take j) := by
                  intro hm
                  obtain ⟨i, hi, e⟩ := List.mem_take_iff_getElem.1 hm
                  have h5 := List.pairwise_iff_getElem.1 HRA.out.at_.asc i j (by omega) (by show j < (r.vs.map Int.toNat).length; simpa using h4) (by omega)
                  have e2 : r.at.vs[j]'(by show j < (r.vs.map Int.toNat).length; simpa using h4) = (r.vs[j]).toNat := by show (r.vs.map Int.toNat)[j]'_ = _; rw [List.getElem_map]
                  rw [e2] at h5
                  rw [e] at h5
                  exact Nat.lt_irrefl _ h5
                obtain ⟨v, hv⟩ : ∃ v : Nat, r.vs[j] = (v : Int) := ⟨(r.vs[j]).toNat, by omega⟩
                rw [hv] at vc hvn HTJ HNT
                simp only [Int.toNat_natCast] at hvn HTJ HNT
                clear hv hv0
                have j1 : wr.cell? ⟨jb, 1, none⟩ = some (.slice (some ⟨ab, 0, none⟩) n n) := HBL.out.j.cell 1
                obtain ⟨u, uc, uo, uq, uf⟩ := OwnAll.at_ HBL.out.at_ hvn
                simp only [if_neg HNT.out, List.append_nil] at uo
                have HUO := Lib.hid uo
                have HUQ := Lib.hid uq
                have hjz := HBL.out.j.lt
                have haz2 : ab < wr.heap.size := OwnAll.lt HBL.out.at_
                have g3 : (0 : Int) ≤ (j : Int) := by omega
                have g4 : (j : Int) < (r.vs.length : Int) := by omega
                have g5 : (0 : Int) ≤ (v : Int) := by omega
                have g6 : (v : Int) < (n : Int) := by omega
                have hw1 : IntKind.i64.wrap ((j : Int) + 1) = ((j + 1 : Nat) : Int) := by rw [IntWalk.i64_in _ (by omega)]; omega
                clear uo uq
                have HGK : Hid (ptrI (I.put k2 g w2.heap.size LA LC) k2 = .pointer (some ⟨g, 0, none⟩)) := HGP.out
                go_wp2_with fail
                refine regionZ (S := (fun w' => w'.cell? ⟨jb, 1, none⟩ = some (.slice (some ⟨ab, 0, none⟩) n n) ∧ w'.cell? ⟨ab, v, none⟩ = some u)) 16 (by kernel_rfl) ⟨j1, uc⟩ (fun hHeld => ?_)
                refine takeZ (i := 0) (v := ?_) (some 84) rfl rfl (by kernel_rfl) (by decide) (by kernel_rfl) (by kernel_rfl) (by kernel_rfl) (by kernel_rfl) (fun _ _ _ h => h) (Or.inl ⟨by rfl, ?_⟩) (by assumption) ?_
                rotate_left 1
                · (intro w0 hSw; (try dsimp only at hSw); go_simp; try (with_reducible rfl))
                try simp only [Act.put]
                try simp only [List.setIfInBounds_toArray]
                try simp only [List.set_cons_succ]
                try simp only [List.set_cons_zero]
                refine takeZ (i := 1) (v := ?_) (some 85) rfl rfl (by kernel_rfl) (by decide) (by kernel_rfl) (by kernel_rfl) (by kernel_rfl) (by kernel_rfl) (fun _ _ _ h => h) (Or.inl ⟨by rfl, ?_⟩) (by assumption) ?_
                rotate_left 1
                · (intro w0 hSw; (try dsimp only at hSw); go_simp; try (with_reducible rfl))
                try simp only [Act.put]
                try simp only [List.setIfInBounds_toArray]
                try simp only [List.set_cons_succ]
                try simp only [List.set_cons_zero]
                refine takeZ (i := 2) (v := ?_) (some 86) rfl rfl (by kernel_rfl) (by decide) (by kernel_rfl) (by kernel_rfl) (by kernel_rfl) (by kernel_rfl) (fun _ _ _ h => h) (Or.inl ⟨by rfl, ?_⟩) (by assumption) ?_
                rotate_left 1
                · (intro w0 hSw; (try dsimp only at hSw); go_simp; try (with_reducible rfl))
                try simp only [Act.put]
                try simp only [List.setIfInBounds_toArray]
                try simp only [List.set_cons_succ]
                try simp only [List.set_cons_zero]
                refine takeZ (i := 3) (v := ?_) (some 87) rfl rfl (by kernel_rfl) (by decide) (by kernel_rfl) (by kernel_rfl) (by kernel_rfl) (by kernel_rfl) (fun _ _ _ h => h) (Or.inl ⟨by rfl, ?_⟩) (by assumption) ?_
                rotate_left 1
                · (intro w0 hSw; (try dsimp only at hSw); go_simp; try (with_reducible rfl))
                try simp only [Act.put]
                try simp only [List.setIfInBounds_toArray]
                try simp only [List.set_cons_succ]
                try simp only [List.set_cons_zero]
                refine takeZ (i := 4) (v := ?_) (some 88) rfl rfl (by kernel_rfl) (by decide) (by kernel_rfl) (by kernel_rfl) (by kernel_rfl) (by kernel_rfl) (fun _ _ _ h => h) (Or.inl ⟨by rfl, ?_⟩) (by assumption) ?_
                rotate_left 1
                · (intro w0 hSw; (try dsimp only at hSw); go_simp; try (with_reducible rfl))
                try simp only [Act.put]
                try simp only [List.setIfInBounds_toArray]
                try simp only [List.set_cons_succ]
                try simp only [List.set_cons_zero]
                refine takeZ (i := 5) (v := ?_) (some 89) rfl rfl (by kernel_rfl) (by decide) (by kernel_rfl) (by kernel_rfl) (by kernel_rfl) (by kernel_rfl) (fun _ _ _ h => h) (Or.inl ⟨by rfl, ?_⟩) (by assumption) ?_
                rotate_left 1
                · (intro w0 hSw; (try dsimp only at hSw); go_simp; try (with_reducible rfl))
                try simp only [Act.put]
                try simp only [List.setIfInBounds_toArray]
                try simp only [List.set_cons_succ]
                try simp only [List.set_cons_zero]
                refine takeZ (i := 6) (v := ?_) (some 90) rfl rfl (by kernel_rfl) (by decide) (by kernel_rfl) (by kernel_rfl) (by kernel_rfl) (by kernel_rfl) (fun _ _ _ h => h) (Or.inl ⟨by rfl, ?_⟩) (by assumption) ?_
                rotate_left 1
                · (intro w0 hSw; (try dsimp only at hSw); go_simp; try (with_reducible rfl))
                try simp only [Act.put]
                try simp only [List.setIfInBounds_toArray]
                try simp only [List.set_cons_succ]
                try simp only [List.set_cons_zero]
                refine takeZ (i := 7) (v := ?_) (some 91) rfl rfl (by kernel_rfl) (by decide) (by kernel_rfl) (by kernel_rfl) (by kernel_rfl) (by kernel_rfl) (fun _ _ _ h => h) (Or.inl ⟨by rfl, ?_⟩) (by assumption) ?_
                rotate_left 1
                · (intro w0 hSw; (try dsimp only at hSw); go_simp; try (with_reducible rfl))
                try simp only [Act.put]
                try simp only [List.setIfInBounds_toArray]
                try simp only [List.set_cons_succ]
                try simp only [List.set_cons_zero]
                refine takeZ (i := 8) (v := ?_) (some 92) rfl rfl (by kernel_rfl) (by decide) (by kernel_rfl) (by kernel_rfl) (by kernel_rfl) (by kernel_rfl) (fun _ _ _ h => h) (Or.inl ⟨by rfl, ?_⟩) (by assumption) ?_
                rotate_left 1
                · (intro w0 hSw; (try dsimp only at hSw); go_simp; try (with_reducible rfl))
                try simp only [Act.put]
                try simp only [List.setIfInBounds_toArray]
                try simp only [List.set_cons_succ]
                try simp only [List.set_cons_zero]
                refine takeZ (i := 9) (v := ?_) (some 93) rfl rfl (by kernel_rfl) (by decide) (by kernel_rfl) (by kernel_rfl) (by kernel_rfl) (by kernel_rfl) (fun _ _ _ h => h) (Or.inl ⟨by rfl, ?_⟩) (by assumption) ?_
                rotate_left 1
                · (intro w0 hSw; (try dsimp only at hSw); go_simp; try (with_reducible rfl))
                try simp only [Act.put]
                try simp only [List.setIfInBounds_toArray]
                try simp only [List.set_cons_succ]
                try simp only [List.set_cons_zero]
                refine takeZ (i := 10) (v := ?_) (some 94) rfl rfl (by kernel_rfl) (by decide) (by kernel_rfl) (by kernel_rfl) (by kernel_rfl) (by kernel_rfl) (fun _ _ _ h => h) (Or.inl ⟨by rfl, ?_⟩) (by assumption) ?_
                rotate_left 1
                · (intro w0 hSw; (try dsimp only at hSw); go_simp; try (with_reducible rfl))
                try simp only [Act.put]
                try simp only [List.setIfInBounds_toArray]
                try simp only [List.set_cons_succ]
                try simp only [List.set_cons_zero]
                refine takeZ (i := 11) (v := ?_) (some 95) rfl rfl (by kernel_rfl) (by decide) (by kernel_rfl) (by kernel_rfl) (by kernel_rfl) (by kernel_rfl) (fun _ _ _ h => h) (Or.inl ⟨by rfl, ?_⟩) (by assumption) ?_
                rotate_left 1
                · (intro w0 hSw; (try dsimp only at hSw); go_simp; try (with_reducible rfl))
                try simp only [Act.put]
                try simp only [List.setIfInBounds_toArray]
                try simp only [List.set_cons_succ]
                try simp only [List.set_cons_zero]
                refine takeZ (i := 12) (v := ?_) (some 96) rfl rfl (by kernel_rfl) (by decide) (by kernel_rfl) (by kernel_rfl) (by kernel_rfl) (by kernel_rfl) (fun _ _ _ h => h) (Or.inl ⟨by rfl, ?_⟩) (by assumption) ?_
                rotate_left 1
                · (intro w0 hSw; (try dsimp only at hSw); go_simp; try (with_reducible rfl))
                try simp only [Act.put]
                try simp only [List.setIfInBounds_toArray]
                try simp only [List.set_cons_succ]
                try simp only [List.set_cons_zero]
                refine oneZ (i := 13) (by kernel_rfl) rfl (by decide) (fun K hK => ?_)
                go_simp
                have hxa : Ext wr ((wr.alloc (.cells #[.pointer (some ⟨g, 0, none⟩)] 112)).drew) := ((Ext.refl wr).alloc _).drew
                have KEEP := (⟨(hxa.cell hjz).trans j1, (hxa.cell haz2).trans uc⟩ : _ ∧ _)
                have HBLA := Lib.hid (HBL.out.up hxa.below)
                have HAXA := Lib.hid (HAXJ.out.up hxa.below)
                have HBWA := Lib.hid (Below.trans HBWJ.out (hxa.below.mono hzj))
                clear hxa
                refine hK.out _ _ KEEP (fun hHeld => ?_)
                clear hK K
                try simp only [Act.put]
                try simp only [List.setIfInBounds_toArray]
                try simp only [List.set_cons_succ]
                try simp only [List.set_cons_zero]
                refine oneZ (i := 14) (by kernel_rfl) rfl (by decide) (fun K hK => ?_)
                refine stepP (w := (wr.alloc (.cells #[.pointer (some ⟨g, 0, none⟩)] 112)).drew) rfl (.tmp 95) (.tmp 97) rfl wc.heap.size u (ixK (X.map RA.at) k2 v).length ((ixK (X.map RA.at) k2 v).map (ptrI (I.put k2 g w2.heap.size LA LC))) (by simp [Act.eval]) (own_keep HUO.out (((Ext.refl wr).alloc _).drew).below) wr.heap.size (some ⟨g, 0, none⟩) (by simp [Act.eval]) (Row.new wr 112 [.pointer (some ⟨g, 0, none⟩)]) (by have := HIXL.out v; omega) HBLA.out.z ?_
                intro ng cp w6 hown6 hg6 hat6
                have KEEP2 : w6.cell? ⟨jb, 1, none⟩ = some (.slice (some ⟨ab, 0, none⟩) n n) ∧ w6.cell? ⟨ab, v, none⟩ = some u := by
                  have hb6 : ∀ b, u.ownBlock = some b → wc.heap.size ≤ b := fun b hb => own_base HUO.out hb
                  exact ⟨(grown_cell hg6 (p := ⟨jb, 1, none⟩) HBLA.out.j.lt (fun e => by have := hb6 _ e.symm; have := HBLA.out.jb_; simp only at *; omega)).trans KEEP.1, (grown_cell hg6 (p := ⟨ab, v, none⟩) (OwnAll.lt HBLA.out.at_) (fun e => by have := hb6 _ e.symm; have := HBLA.out.ab_; simp only at *; omega)).trans KEEP.2⟩
                have HPUT := Lib.hid (HBLA.out.ix_put (v := v) (t := k2) (u := u) (u' := .slice (some ⟨ng, 0, none⟩) ((ixK (X.map RA.at) k2 v).length + 1) cp) KEEP.2 (by omega) hg6 (by
                  simp only [if_neg HNT.out, List.append_nil]
                  rw [HGK.out]
                  exact hown6) (fun b hb => by
                  injection hb with hb
                  subst hb
                  rcases hat6 with h | h
                  · exact .inl h
                  · exact .inr (by rw [h]; exact Nat.le_refl _)) (fun b hb => ⟨own_base HUO.out hb, HUQ.out b hb⟩))
                have hf6 : w6.frozen? ⟨ab, v, none⟩ = false := by
                  obtain ⟨hs, r1, -⟩ := HBLA.out.at_
                  exact (r1.grown hg6 (fun e => by have := own_base HUO.out e.symm; have := HBLA.out.ab_; omega)).frozen _
                have HAX7 : Hid (Row (w6.setCell ⟨ab, v, none⟩ (.slice (some ⟨ng, 0, none⟩) ((ixK (X.map RA.at) k2 v).length + 1) cp)) wo.heap.size 52 [.slice (some ⟨vb, vo, none⟩) r.vs.length VC, .int .i64 r.ar, .slice PA r.P.length PC]) := by
                  have hne := own_ne_row HUO.out HAXJ.out (by decide)
                  refine (HAXA.out.grown hg6 (fun e => hne e.symm)).far (fun e => ?_) _
                  obtain ⟨hs, hab, -⟩ := HBL.out.at_
                  have e : wo.heap.size = ab := e
                  rw [← e] at hab
                  have h9 := hab.symm.trans HAXJ.out
                  injection h9 with h9
                  injection h9 with _ h9 _
                  exact absurd h9 (by decide)
                have HBW7 : Hid (Below w.heap.size w (w6.setCell ⟨ab, v, none⟩ (.slice (some ⟨ng, 0, none⟩) ((ixK (X.map RA.at) k2 v).length + 1) cp))) := by
                  refine Below.setCell (Below.trans HBWA.out (⟨hg6.os, hg6.tape, hg6.output, hg6.size, fun b hb => hg6.block b (Nat.lt_of_lt_of_le hb HBWA.out.size) (fun e => by have := own_base HUO.out e.symm; omega)⟩ : Below w.heap.size _ w6)) ?_ _
                  exact HBS.out.2.1
                have HOWN6 := Lib.hid hown6
                have HG6 := Lib.hid hg6
                clear hown6 hg6 hat6
                refine hK.out _ _ KEEP2 (fun hHeld => ?_)
                clear hK K
                try simp only [Act.put]
                try simp only [List.setIfInBounds_toArray]
                try simp only [List.set_cons_succ]
                try simp only [List.set_cons_zero]
                refine takeZ (i := 15) (v := ?_) (some 99) rfl rfl (by kernel_rfl) (by decide) (by kernel_rfl) (by kernel_rfl) (by kernel_rfl) (by kernel_rfl) (fun _ _ _ h => h) (Or.inl ⟨by rfl, ?_⟩) (by assumption) ?_
                rotate_left 1
                · (intro w0 hSw; (try dsimp only at hSw); go_simp; try (with_reducible rfl))
                try simp only [Act.put]
                try simp only [List.setIfInBounds_toArray]
                try simp only [List.set_cons_succ]
                try simp only [List.set_cons_zero]
                refine lastZ (by kernel_rfl) rfl (by kernel_rfl) (fun K hK => ?_)
                go_simp
                go_wp2_with fail
                refine hK.out _ _ ?_
                clear hK K
                try simp only [Act.put]
                try simp only [List.setIfInBounds_toArray]
                try simp only [List.set_cons_succ]
                try simp only [List.set_cons_zero]
                go_wp2
                go_roundw
                case rel =>
                  refine ⟨j + 1, h4, by go_num, ?_, HAX7.out, HBW7.out⟩
                  have e : (fun y => ixK (X.map RA.at) k2 y ++ if y ∈ r.at.vs.take (j + 1) then [k2] else []) = fun y => if y = v then (ixK (X.map RA.at) k2 v ++ if v ∈ r.at.vs.take j then [k2] else []) ++ [k2] else ixK (X.map RA.at) k2 y ++ if y ∈ r.at.vs.take j then [k2] else [] := funext fun y => by
                    rw [HTJ.out]
                    by_cases hy : y = v
                    · subst hy
                      rw [if_pos (by simp), if_pos rfl, if_neg HNT.out, List.append_nil]
                    · rw [if_neg hy]
                      by_cases hm : y ∈ r.at.vs.take j
                      · rw [if_pos hm, if_pos (List.mem_append.2 (.inl hm))]
                      · rw [if_neg hm, if_neg (fun h => by rcases List.mem_append.1 h with h | h; exact hm h; exact hy (by simpa using h))]
                  rw [e]
                  exact HPUT.out
                case measure => simp [intOf]; omega
              have HJE : Hid (j = r.vs.length) := by show _ = _; omega
              go_wp2_with fail
              go_roundw
              case rel =>
                refine ⟨k2 + 1, I.put k2 g w2.heap.size LA LC, updN lo k2 w3.heap.size, h2, by go_num, HIL.out, ?_, HBWJ.out⟩
                have e : ixK (X.map RA.at) (k2 + 1) = fun y => ixK (X.map RA.at) k2 y ++ if y ∈ r.at.vs.take j then [k2] else [] := funext fun y => by
                  rw [ixK_succ, HLA.out, HJE.out, List.take_of_length_le (by show (r.vs.map Int.toNat).length ≤ _; simp)]
                rw [e]
                exact HBL.out
              case measure => simp [intOf]; omega
        have hlen : I.l.length = k2 := by rw [HIL.out, List.length_map]; omega
        have hkx : k2 = X.length := by omega
        obtain ⟨UA, UC, hu11, -, hsl⟩ := Sl.of_own_n HBLD.out.all
        subst hu11
        have hub : ∀ ad, UA = some ad → wc.heap.size ≤ ad.block ∧ ¬ Bad I lo k2 ad.block := fun ad e => ⟨own_base HBLD.out.all (by rw [e]; rfl), HBLD.out.allq _ (by rw [e]; rfl)⟩
        obtain ⟨E, hEI, hEn, hEj, hEok, hEy, hEc, hES, hEF, hEB⟩ := Bld.eng (O0 := O0) (M := M) (by rw [hlen]; exact HBLD.out) (fun v hv => by rw [HIL.out, hkx, ← List.length_map RA.at, ixK_all]) (fun a ha => by
          rw [HIL.out] at ha
          obtain ⟨r, hr, rfl⟩ := List.mem_map.1 ha
          exact (HOK.out r hr).at_) (fun a ha => by
          rw [HIL.out] at ha
          obtain ⟨r, hr, rfl⟩ := List.mem_map.1 ha
          exact Nat.le_trans (HOK.out r hr).len (by omega)) (fun v hv => by
          obtain ⟨r, hr, h⟩ := HU.out v hv
          exact ⟨r.at, by rw [HIL.out]; exact List.mem_map.2 ⟨r, hr, rfl⟩, h⟩) (fun b hb => Nat.lt_of_lt_of_le (HO.out b hb) hzc) (fun {b} e hb => by have := HO.out b hb; have := HBS.out.2.2.1; omega) (fun {b} e hb => by have := HO.out b hb; have := HBS.out.1; omega) (fun {b} e hb => by have := HO.out b hb; have := HBS.out.2.1; omega) hn (by omega) (fun a ha q => by
          rw [HIL.out] at ha
          obtain ⟨r, hr, rfl⟩ := List.mem_map.1 ha
          exact (HOK.out r hr).M q)
        have hjz : joinF n (X.map RA.at) = joinN E.I.l n [] := by rw [hEI, HIL.out]; exact joinF_some HNEA.out
        have hb0 : costN M (meetN 64 M) n ≤ 100000000000000000 := Nat.le_trans (Nat.le_mul_of_pos_right _ (by decide)) HCO.out
        have HEX : Hid (Calls Try.prog 53 #[.pointer (some ⟨jb, 0, none⟩), .int .i64 0] wo (ExtPost E O0 wo go Inv (costN M (meetN 64 M) n) (joinN E.I.l n []) [] L 0 (fun _ => 0))) := by
          have hY : Yield E.yf E.cap go Inv N 64 := by rw [hEy, hEc]; exact HY.out
          have h := lfExtend_any hEok hY n [] (List.replicate n zv0) L O0 0 (fun _ => 0) wo (by rw [hEn]; simp) rfl hES (Chg.refl _ _) (HY.out.keep L O0 w wo HI.out HO.out (fun b hb => HBW.out.block b (HO.out b hb)) HBW.out.size) (fun b hb => ⟨Nat.lt_of_lt_of_le (HO.out b hb) HBW.out.size, .inl hb⟩) (fun a ha => preA_nil (HNEA.out a (by rw [← HIL.out, ← hEI]; exact ha))) (by rw [← hjz]; exact HL.out) (by omega) (fun i _ => by rw [Nat.zero_add]; exact HCO.out)
          rw [hEj] at h
          exact h
        have HEI := Lib.hid hEI
        have HEJ := Lib.hid hEj
        have HEOK := Lib.hid hEok
        have HEF := Lib.hid hEF
        have HEB := Lib.hid hEB
        have HSL := Lib.hid hsl
        have HUBD := Lib.hid hub
        have HJZ := Lib.hid hjz
        have HLEN2 := Lib.hid hlen
        have hb9 : 0 + costN M (meetN 64 M) n ≤ 100000000000000000 := by omega
        generalize costN M (meetN 64 M) n = CC at HEX HCO hb9
        clear hEI hEj hEok hEF hEB hsl hub hjz hlen hES hEn hEy hEc hb0 hmi
        go_wp2_with fail
        refine HEX.out.mono ?_
        rintro e w2 ⟨rfl, z', st', ss', O', hS', -, hI', hO', hC', hb1, hb2, hb3⟩
        have HS' := Lib.hid hS'
        have HI' := Lib.hid hI'
        have HO' := Lib.hid hO'
        have HC' := Lib.hid hC'
        have HB' := Lib.hid (And.intro hb1 hb3)
        have HSL2 := Lib.hid ((HSL.out.chg HC'.out (Nat.le_refl _) (fun ad e => HEB.out _ (HUBD.out ad e).1 (by rw [HLEN2.out]; exact (HUBD.out ad e).2))))
        have hst : st' ≤ 100000000000000000 := by omega
        clear hS' hI' hO' hC' hb1 hb2 hb3 HEX
        go_wp2_with fail
        go_loopw [106] (fun c wx => ∃ (k3 st2 : Nat), k3 ≤ k2 ∧ c = .int .i64 k3 ∧ Row wx E.jb 105 (E.jrow st2) ∧ st' ≤ st2 ∧ st2 ≤ 100000000000000000 + k3 * 100000000000000000 ∧ Chg (fun b => b = E.jb) w2 wx) (fun c _ => k2 - (intOf c).toNat)
        case atStart => exact ⟨0, st', Nat.zero_le _, rfl, HS'.out.j, Nat.le_refl _, by omega, Chg.refl _ _⟩
        case round =>
          obtain ⟨k3, st2, hk3, rfl, hj3, hs1, hs2, hc3⟩ := hrel
          have HJ3 := Lib.hid hj3
          have HC3 := Lib.hid hc3
          have HST := Lib.hid hs2
          by_cases h5 : k3 < k2
          · have hne : (List.range k2).map (ptrI I) ≠ [] := by intro e; have := congrArg List.length e; simp at this; omega
            obtain ⟨ub, uo, hua, hub, huc⟩ := HSL2.out hne
            subst hua
            have pc : w2.cell? ⟨ub, uo + k3, none⟩ = some (.pointer (some ⟨I.g k3, 0, none⟩)) := huc k3 _ (by rw [List.getElem?_map, List.getElem?_range h5]; rfl)
            have hubz : ub < wr.heap.size := Nat.lt_of_lt_of_le (Nat.lt_of_lt_of_le hub HC'.out.size) hc3.size
            have hubj : ub ≠ E.jb := fun e => HEB.out ub (HUBD.out ⟨ub, uo, none⟩ rfl).1 (by rw [HLEN2.out]; exact (HUBD.out ⟨ub, uo, none⟩ rfl).2) (.inl (.inl e))
            have pc := (hc3.cell (p := ⟨ub, uo + k3, none⟩) (Nat.lt_of_lt_of_le hub HC'.out.size) hubj).trans pc
            have hk3l : k3 < E.I.l.length := by rw [HEI.out, HLEN2.out]; exact h5
            have hit := IterP.chg (HS'.out.it k3 hk3l) hc3 (HEOK.out.jg k3 hk3l)
            rw [HEI.out] at hit
            have hs3 : ss' k3 ≤ 100000000000000000 := by
              have h := HB'.out.2 k3 hk3l
              simp only [Nat.zero_add] at h
              exact Nat.le_trans h HCO.out
            have HSTEP : Hid (∀ W, Ext wr W → Calls Try.prog 54 #[.pointer (some ⟨I.g k3, 0, none⟩)] W fun e w' => e = .returned (.int .i64 (ss' k3 : Nat)) ∧ W = w') := fun W hW => itSteps _ _ _ _ _ _ _ W (hit.ext hW)
            have hj4 : Row wr jb 105 (E.jrow st2) := by rw [← HEJ.out]; exact hj3
            have j2 : wr.cell? ⟨jb, 2, none⟩ = some (.int .i64 st2) := hj4.cell 2
            have f2 : wr.frozen? ⟨jb, 2, none⟩ = false := hj4.frozen 2
            have hjz := hj4.lt
            have HJ4 := Lib.hid hj4
            obtain ⟨s3, hs3e⟩ : ∃ s3, s3 = ss' k3 := ⟨_, rfl⟩
            have HS3E := Lib.hid hs3e
            rw [← hs3e] at HSTEP hs3
            have g3 : (0 : Int) ≤ (k3 : Int) := by omega
            have g4 : (k3 : Int) < (k2 : Int) := by omega
            have hw1 : IntKind.i64.wrap ((k3 : Int) + 1) = ((k3 + 1 : Nat) : Int) := by rw [IntWalk.i64_in _ (by omega)]; omega
            have hb3 : st2 + s3 ≤ 100000000000000000 + (k3 + 1) * 100000000000000000 := by rw [Nat.succ_mul]; omega
            have hk33 : (k3 + 1) * 100000000000000000 ≤ 32 * 100000000000000000 := Nat.mul_le_mul_right _ (by omega)
            have hw2 : IntKind.i64.wrap ((st2 : Int) + (s3 : Int)) = ((st2 + s3 : Nat) : Int) := by rw [IntWalk.i64_in _ (by omega)]; omega
            have HB3 := Lib.hid hb3
            have HS1 := Lib.hid hs1
            clear hj3 hc3 hit hj4 hs3e hb3 hs1 hs2 huc hne hubj hk3l hs3 hst hk33
            go_wp2_with fail
            refine regionZ (S := (fun w' => w'.cell? ⟨jb, 2, none⟩ = some (.int .i64 st2))) 9 (by kernel_rfl) j2 (fun hHeld => ?_)
            refine takeZ (i := 0) (v := ?_) (some 110) rfl rfl (by kernel_rfl) (by decide) (by kernel_rfl) (by kernel_rfl) (by kernel_rfl) (by kernel_rfl) (fun _ _ _ h => h) (Or.inl ⟨by rfl, ?_⟩) (by assumption) ?_
            rotate_left 1
            · (intro w0 hSw; (try dsimp only at hSw); go_simp; try (with_reducible rfl))
            try simp only [Act.put]
            try simp only [List.setIfInBounds_toArray]
            try simp only [List.set_cons_succ]
            try simp only [List.set_cons_zero]
            refine takeZ (i := 1) (v := ?_) (some 111) rfl rfl (by kernel_rfl) (by decide) (by kernel_rfl) (by kernel_rfl) (by kernel_rfl) (by kernel_rfl) (fun _ _ _ h => h) (Or.inl ⟨by rfl, ?_⟩) (by assumption) ?_
            rotate_left 1
            · (intro w0 hSw; (try dsimp only at hSw); go_simp; try (with_reducible rfl))
            try simp only [Act.put]
            try simp only [List.setIfInBounds_toArray]
            try simp only [List.set_cons_succ]
            try simp only [List.set_cons_zero]
            refine takeZ (i := 2) (v := ?_) (some 112) rfl rfl (by kernel_rfl) (by decide) (by kernel_rfl) (by kernel_rfl) (by kernel_rfl) (by kernel_rfl) (fun _ _ _ h => h) (Or.inl ⟨by rfl, ?_⟩) (by assumption) ?_
            rotate_left 1
            · (intro w0 hSw; (try dsimp only at hSw); go_simp; try (with_reducible rfl))
            try simp only [Act.put]
            try simp only [List.setIfInBounds_toArray]
            try simp only [List.set_cons_succ]
            try simp only [List.set_cons_zero]
            refine takeZ (i := 3) (v := ?_) (some 113) rfl rfl (by kernel_rfl) (by decide) (by kernel_rfl) (by kernel_rfl) (by kernel_rfl) (by kernel_rfl) (fun _ _ _ h => h) (Or.inl ⟨by rfl, ?_⟩) (by assumption) ?_
            rotate_left 1
            · (intro w0 hSw; (try dsimp only at hSw); go_simp; try (with_reducible rfl))
            try simp only [Act.put]
            try simp only [List.setIfInBounds_toArray]
            try simp only [List.set_cons_succ]
            try simp only [List.set_cons_zero]
            refine takeZ (i := 4) (v := ?_) (some 114) rfl rfl (by kernel_rfl) (by decide) (by kernel_rfl) (by kernel_rfl) (by kernel_rfl) (by kernel_rfl) (fun _ _ _ h => h) (Or.inl ⟨by rfl, ?_⟩) (by assumption) ?_
            rotate_left 1
            · (intro w0 hSw; (try dsimp only at hSw); go_simp; try (with_reducible rfl))
            try simp only [Act.put]
            try simp only [List.setIfInBounds_toArray]
            try simp only [List.set_cons_succ]
            try simp only [List.set_cons_zero]
            refine oneZ (i := 5) (by kernel_rfl) rfl (by decide) (fun K hK => ?_)
            go_simp
            refine (HSTEP.out _ (Ext.refl wr).drew).mono ?_
            rintro e w6 ⟨rfl, hw6⟩
            obtain rfl := hw6.symm
            have KEEP : wr.drew.cell? ⟨jb, 2, none⟩ = some (.int .i64 st2) := j2
            clear hw6
            go_wp2_with fail
            refine hK.out _ _ KEEP (fun hHeld => ?_)
            clear hK K
            try simp only [Act.put]
            try simp only [List.setIfInBounds_toArray]
            try simp only [List.set_cons_succ]
            try simp only [List.set_cons_zero]
            refine takeZ (i := 6) (v := ?_) (some 116) rfl rfl (by kernel_rfl) (by decide) (by kernel_rfl) (by kernel_rfl) (by kernel_rfl) (by kernel_rfl) (fun _ _ _ h => h) (Or.inl ⟨by rfl, ?_⟩) (by assumption) ?_
            rotate_left 1
            · (intro w0 hSw; (try dsimp only at hSw); go_simp; try (with_reducible rfl))
            try simp only [Act.put]
            try simp only [List.setIfInBounds_toArray]
            try simp only [List.set_cons_succ]
            try simp only [List.set_cons_zero]
            refine takeZ (i := 7) (v := ?_) (some 117) rfl rfl (by kernel_rfl) (by decide) (by kernel_rfl) (by kernel_rfl) (by kernel_rfl) (by kernel_rfl) (fun _ _ _ h => h) (Or.inl ⟨by rfl, ?_⟩) (by assumption) ?_
            rotate_left 1
            · (intro w0 hSw; (try dsimp only at hSw); go_simp; try (with_reducible rfl))
            try simp only [Act.put]
            try simp only [List.setIfInBounds_toArray]
            try simp only [List.set_cons_succ]
            try simp only [List.set_cons_zero]
            refine takeZ (i := 8) (v := ?_) (some 118) rfl rfl (by kernel_rfl) (by decide) (by kernel_rfl) (by kernel_rfl) (by kernel_rfl) (by kernel_rfl) (fun _ _ _ h => h) (Or.inl ⟨by rfl, ?_⟩) (by assumption) ?_
            rotate_left 1
            · (intro w0 hSw; (try dsimp only at hSw); go_simp; try (with_reducible rfl))
            try simp only [Act.put]
            try simp only [List.setIfInBounds_toArray]
            try simp only [List.set_cons_succ]
            try simp only [List.set_cons_zero]
            refine lastZ (by kernel_rfl) rfl (by kernel_rfl) (fun K hK => ?_)
            go_simp
            go_wp2_with fail
            refine hK.out _ _ ?_
            clear hK K
            try simp only [Act.put]
            try simp only [List.setIfInBounds_toArray]
            try simp only [List.set_cons_succ]
            try simp only [List.set_cons_zero]
            have hc7 : Chg (fun b => b = E.jb) wr (wr.drew.setCell ⟨jb, 2, none⟩ (.int .i64 ((st2 + s3 : Nat) : Int))) := by
              rw [HEJ.out]
              exact (Chg.of_ext (Ext.refl wr).drew).trans (Chg.set (F := fun b => b = jb) wr.drew jb 2 _ rfl)
            have HC7 := Lib.hid hc7
            have HJ7 : Hid (Row (wr.drew.setCell ⟨jb, 2, none⟩ (.int .i64 ((st2 + s3 : Nat) : Int))) E.jb 105 (E.jrow (st2 + s3))) := by
              show Row _ _ _ _
              rw [HEJ.out]
              exact HJ4.out.drew.set 2 _
            clear hc7 hw2 KEEP
            go_wp2
            go_roundw
            case rel => exact ⟨k3 + 1, st2 + s3, h5, by go_num, HJ7.out, Nat.le_trans HS1.out (Nat.le_add_right _ _), HB3.out, HC3.out.trans HC7.out⟩
            case measure => simp [intOf]; omega
          have hj4 : Row wr jb 105 (E.jrow st2) := by rw [← HEJ.out]; exact hj3
          have j2 : wr.cell? ⟨jb, 2, none⟩ = some (.int .i64 st2) := hj4.cell 2
          have HS1 := Lib.hid hs1
          have hk33 : k3 * 100000000000000000 ≤ 32 * 100000000000000000 := Nat.mul_le_mul_right _ (by omega)
          have hs4 : st2 ≤ 8000000000000000000 := by omega
          clear hj3 hc3 hj4 hs1 hs2 hk33 hst
          go_wp2_with fail
          go_ret2
          have hE : Chg E.EF w2 wr := HC3.out.mono fun _ _ h => .inl h
          have HYE : Hid (Inv (feed go L (joinF n (X.map RA.at))).1 O' wr ∧ ∀ b, O' b → b < wr.heap.size ∧ (O0 b ∨ wo.heap.size ≤ b)) := by
            show _ ∧ _
            rw [HJZ.out]
            refine ⟨HY.out.keep _ O' w2 wr HI'.out (fun b hb => (HO'.out b hb).1) (fun b hb => hE.block b (HO'.out b hb).1 fun h => ?_) hE.size, fun b hb => ⟨Nat.lt_of_lt_of_le (HO'.out b hb).1 hE.size, (HO'.out b hb).2⟩⟩
            rcases (HO'.out b hb).2 with h1 | h1
            · exact HEOK.out.O b h h1
            · have := HEOK.out.lt b h; omega
          refine ⟨st2, rfl, ?_, hs4, O', HYE.out.1, fun b hb => ⟨(HYE.out.2 b hb).1, (HYE.out.2 b hb).2.imp id fun h => Nat.le_trans HBW.out.size h⟩, ?_⟩
          · have h := HB'.out.1
            rw [HJZ.out]
            exact Nat.le_trans (by omega) (Nat.le_trans h HS1.out)
          · have hall : Chg (E.TF O0) wo wr := Eng.tf HC'.out hE
            refine (Chg.of_below HBW.out fun k h1 h2 => absurd h1 (by omega)).then hall fun x hx ht => ?_
            rcases ht with ht | ht
            · have hbs := HBS.out
              rcases HEF.out x ht with e | e | e
              · omega
              · omega
              · omega
            · exact ht

end Go.Proofs.Ytiomelogggilgaa
end

section
/- Walks: slices.Contains at bools; leapfrog's Check. -/
namespace Go.Proofs.Ytiomelogggilgaa
open Go.RowKit Go.Sort

set_option maxRecDepth 100000 in
theorem indexBool_any (b0 : Nat) (C : Nat) (l : List Bool) (w : World) (hr : Row w b0 4 (l.map Value.bool)) (hl : l.length ≤ 1000000) :
    Calls Try.prog 66 #[.slice (some ⟨b0, 0, none⟩) l.length C, .bool false] w fun e w' => ∃ z : Int, e = .returned (.int .i64 z) ∧ (0 ≤ z ↔ false ∈ l) ∧ w = w' := by
  have HR := Lib.hid hr
  have hbz := hr.lt
  clear hr
  go_enter Try.func66, Try.ntmps66
  go_wp2
  go_loopw [8] (fun c wr => ∃ k : Nat, k ≤ l.length ∧ c = .int .i64 k ∧ (∀ b ∈ l.take k, b = true) ∧ wr = w) (fun c _ => l.length - (intOf c).toNat)
  case atStart => exact ⟨0, Nat.zero_le _, rfl, fun b hb => by simp at hb, rfl⟩
  case round =>
    obtain ⟨k, hk, rfl, hall, rfl⟩ := hrel
    have HALL := Lib.hid hall
    clear hall
    by_cases h1 : k < l.length
    · have c0 : wr.cell? ⟨b0, k, none⟩ = some (.bool l[k]) := by rw [HR.out.cell, List.getElem?_map, List.getElem?_eq_getElem h1]; rfl
      have g1 : (0 : Int) ≤ (k : Int) := by omega
      have g2 : (k : Int) < (l.length : Int) := by omega
      have hw1 : IntKind.i64.wrap ((k : Int) + 1) = ((k + 1 : Nat) : Int) := by rw [IntWalk.i64_in _ (by omega)]; omega
      have HM : Hid (l[k] ∈ l) := List.getElem_mem h1
      have HT : Hid (l.take (k + 1) = l.take k ++ [l[k]]) := List.take_succ_eq_append_getElem h1
      generalize l[k] = b at *
      cases b
      · go_wp2
        go_ret
        exact ⟨_, rfl, ⟨fun _ => HM.out, fun _ => g1⟩, rfl⟩
      · go_wp2
        go_roundw
        case rel =>
          refine ⟨k + 1, h1, by go_num, fun b hb => ?_, by first | rfl | trivial⟩
          rw [HT.out] at hb
          rcases List.mem_append.1 hb with h | h
          · exact HALL.out b h
          · simpa using h
        case measure => simp [intOf]; omega
    · have HN : Hid (false ∉ l) := fun hm => by
        rw [List.take_of_length_le (by omega)] at HALL
        exact Bool.noConfusion (HALL.out false hm)
      go_wp2
      go_ret
      exact ⟨_, rfl, ⟨fun h => absurd h (by decide), fun h => absurd h HN.out⟩, rfl⟩
theorem containsBool_any (b0 : Nat) (C : Nat) (l : List Bool) (w : World) (hr : Row w b0 4 (l.map Value.bool)) (hl : l.length ≤ 1000000) :
    Calls Try.prog 45 #[.slice (some ⟨b0, 0, none⟩) l.length C, .bool false] w fun e w' => e = .returned (.bool (decide (false ∈ l))) ∧ w = w' := by
  have HI := Lib.hid (indexBool_any b0 C l w hr hl)
  clear hr
  go_enter Try.func45, Try.ntmps45
  go_wp2_with fail
  refine HI.out.mono ?_
  rintro e w2 ⟨z, rfl, hz, rfl⟩
  have HZ := Lib.hid hz
  clear hz
  have hd : decide (0 ≤ z) = decide (false ∈ l) := decide_eq_decide.2 HZ.out
  have HD := Lib.hid hd
  clear hd
  go_wp2
  go_ret
  exact ⟨by rw [← HD.out]; rfl, rfl⟩

/-- The error of one atom. -/
def errAt (n : Int) (a : RA) : Int := if ¬ a.vs.Pairwise (· < ·) then 16 else if ∃ v ∈ a.vs, v < 0 ∨ n ≤ v then 3 else if (a.vs.length : Int) ≠ a.ar then 6 else 0
/-- The error of a list of atoms. -/
def errA (n : Int) (X : List RA) : Int :=
  if n < 0 ∨ 32 < n then 3 else if 32 < X.length then 12 else match X.find? (fun a => errAt n a != 0) with
    | some a => errAt n a
    | none => if (List.range n.toNat).any (fun v => X.all fun a => decide ((v : Int) ∉ a.vs)) then 22 else 0

theorem pairwise_adj : ∀ (l : List Int), (∀ p (h : p + 1 < l.length), l[p] < l[p + 1]) → l.Pairwise (· < ·)
  | [], _ => List.Pairwise.nil
  | [a], _ => List.pairwise_singleton _ _
  | a :: b :: t, h => by
    have h1 := pairwise_adj (b :: t) fun p hp => h (p + 1) (by simp at hp ⊢; omega)
    refine List.pairwise_cons.2 ⟨fun y hy => ?_, h1⟩
    have hab : a < b := h 0 (by simp)
    rcases List.mem_cons.1 hy with rfl | hy
    · exact hab
    · exact Int.lt_trans hab ((List.pairwise_cons.1 h1).1 y hy)
theorem errAt_order {n : Int} {a : RA} {p : Nat} (h : p + 1 < a.vs.length) (hge : a.vs[p + 1] ≤ a.vs[p]) : errAt n a = 16 := by
  unfold errAt
  rw [if_pos]
  intro hp
  have := List.pairwise_iff_getElem.1 hp p (p + 1) (by omega) h (by omega)
  omega
theorem errAt_range {n : Int} {a : RA} (h : a.vs.Pairwise (· < ·)) {v : Int} (hv : v ∈ a.vs) (hb : v < 0 ∨ n ≤ v) : errAt n a = 3 := by
  unfold errAt
  rw [if_neg (by simpa using h), if_pos ⟨v, hv, hb⟩]
theorem errAt_arity {n : Int} {a : RA} (h : a.vs.Pairwise (· < ·)) (hr : ∀ v ∈ a.vs, 0 ≤ v ∧ v < n) : errAt n a = if (a.vs.length : Int) = a.ar then 0 else 6 := by
  unfold errAt
  rw [if_neg (by simpa using h), if_neg (fun ⟨v, hv, hb⟩ => by have := hr v hv; omega)]
  by_cases e : (a.vs.length : Int) = a.ar
  · rw [if_pos e, if_neg (by simpa using e)]
  · rw [if_neg e, if_pos e]
theorem errA_at {n : Int} {X : List RA} {k : Nat} (hn : ¬ (n < 0 ∨ 32 < n)) (hX : ¬ 32 < X.length) (hk : k < X.length) (h0 : ∀ j (hj : j < X.length), j < k → errAt n X[j] = 0) (hne : errAt n X[k] ≠ 0) : errA n X = errAt n X[k] := by
  unfold errA
  rw [if_neg hn, if_neg hX]
  have e : X.find? (fun a => errAt n a != 0) = some X[k] := by
    rw [List.find?_eq_some_iff_getElem]
    refine ⟨by simpa using hne, k, hk, rfl, fun j hj => ?_⟩
    simp [h0 j (by omega) hj]
  rw [e]
theorem errA_end {n : Int} {X : List RA} (hn : ¬ (n < 0 ∨ 32 < n)) (hX : ¬ 32 < X.length) (h0 : ∀ j (hj : j < X.length), errAt n X[j] = 0) : errA n X = if (List.range n.toNat).any (fun v => X.all fun a => decide ((v : Int) ∉ a.vs)) then 22 else 0 := by
  unfold errA
  rw [if_neg hn, if_neg hX]
  have e : X.find? (fun a => errAt n a != 0) = none := by
    rw [List.find?_eq_none]
    intro a ha
    obtain ⟨j, hj, rfl⟩ := List.getElem_of_mem ha
    simp [h0 j hj]
  rw [e]
/-- The variables of S, marked. -/
def usedB (m : Nat) (S : List Int) : List Bool := (List.range m).map fun v : Nat => decide ((v : Int) ∈ S)
theorem usedB_nil (m : Nat) : (usedB m []).map Value.bool = List.replicate m (.bool false) := by
  refine List.ext_getElem (by simp [usedB]) fun i h1 h2 => ?_
  simp [usedB]
theorem usedB_set {m : Nat} {S : List Int} {v : Nat} (hv : v < m) : (usedB m S).set v true = usedB m (S ++ [(v : Int)]) := by
  refine List.ext_getElem (by simp [usedB]) fun i h1 h2 => ?_
  by_cases e : i = v
  · subst e; simp [usedB]
  · rw [List.getElem_set_ne (fun e' => e e'.symm)]
    simp only [usedB, List.getElem_map, List.getElem_range]
    refine decide_eq_decide.2 ?_
    rw [List.mem_append, List.mem_singleton]
    constructor
    · exact .inl
    · rintro (h | h)
      · exact h
      · omega
theorem usedB_false {m : Nat} {X : List RA} : (false ∈ usedB m (X.flatMap (·.vs))) ↔ (List.range m).any (fun v => X.all fun a => decide ((v : Int) ∉ a.vs)) = true := by
  unfold usedB
  rw [List.mem_map, List.any_eq_true]
  constructor
  · rintro ⟨v, hv, h⟩
    refine ⟨v, hv, List.all_eq_true.2 fun a ha => ?_⟩
    have h := of_decide_eq_false h
    exact decide_eq_true fun hm => h (List.mem_flatMap.2 ⟨a, ha, hm⟩)
  · rintro ⟨v, hv, h⟩
    refine ⟨v, hv, decide_eq_false fun hm => ?_⟩
    obtain ⟨a, ha, hm⟩ := List.mem_flatMap.1 hm
    exact of_decide_eq_true (List.all_eq_true.1 h a ha) hm
theorem boolInfo35 : (Try.prog.info? 4).map (fun i => (i.zero, i.size, i.bytes)) = some (some (.bool false), 1, 1) := by kernel_rfl
theorem makeBools35 (n : Nat) (hn : n ≤ 1000000) (w : World) : (Instr.makeSlice 93 (.int .i64 (n : Int)) (.int .i64 (n : Int))).run Try.prog w = .ok (.slice (some ⟨w.heap.size, 0, none⟩) n n) (w.alloc (.cells (zerosA (.bool false) n) 4)) := by
  obtain ⟨i0, hi0, hz0, hz1, hz2⟩ := info_parts boolInfo35
  have := run_make (P := Try.prog) w 93 4 i0 _ Try.underlying93 hi0 hz0 .i64 .i64 n n (by omega) (by omega) (by rw [hz2]; omega) (by omega)
  rw [this, hz1]
  simp only [Int.toNat_natCast]
  rw [zeros_made _ _ rfl]

set_option maxHeartbeats 8000000 in
set_option maxRecDepth 100000 in
theorem lfCheck_any (n : Int) (AA : Option Addr) (AC : Nat) (X : List RA) (w : World) (hA : AtsM w.heap.size w AA X) (hXl : X.length ≤ 9223372036854775807) (hvl : ∀ a ∈ X, a.vs.length ≤ 1000000) :
    Calls Try.prog 24 #[.int .i64 n, .slice AA X.length AC] w fun e w' => e = .returned (.int .i64 (errA n X)) ∧ Below w.heap.size w w' := by
  have HA := Lib.hid hA
  have HVL := Lib.hid hvl
  clear hA hvl
  by_cases hn0 : n < 0
  · have HE : Hid (errA n X = 3) := by show _ = _; unfold errA; rw [if_pos (.inl hn0)]
    have hd : decide (n < 0) = true := decide_eq_true hn0
    go_enter Try.func24, Try.ntmps24
    go_wp2
    go_ret
    exact ⟨by rw [HE.out]; rfl, Below.refl _ _⟩
  by_cases hn1 : 32 < n
  · have HE : Hid (errA n X = 3) := by show _ = _; unfold errA; rw [if_pos (.inr hn1)]
    have hd : decide (n < 0) = false := decide_eq_false hn0
    have hd2 : decide (32 < n) = true := decide_eq_true hn1
    go_enter Try.func24, Try.ntmps24
    go_wp2
    go_ret
    exact ⟨by rw [HE.out]; rfl, Below.refl _ _⟩
  by_cases hX : 32 < X.length
  · have HE : Hid (errA n X = 12) := by show _ = _; unfold errA; rw [if_neg (by omega), if_pos hX]
    have hd : decide (n < 0) = false := decide_eq_false hn0
    have hd2 : decide (32 < n) = false := decide_eq_false hn1
    have hd3 : decide ((32 : Int) < (X.length : Int)) = true := decide_eq_true (by omega)
    go_enter Try.func24, Try.ntmps24
    go_wp2
    go_ret
    exact ⟨by rw [HE.out]; rfl, Below.refl _ _⟩
  obtain ⟨m, rfl⟩ : ∃ m : Nat, n = (m : Int) := ⟨n.toNat, by omega⟩
  have hm32 : m ≤ 32 := by omega
  have HN : Hid (¬ ((m : Int) < 0 ∨ 32 < (m : Int))) := fun h => by omega
  have hd : decide ((m : Int) < 0) = false := decide_eq_false hn0
  have hd2 : decide (32 < (m : Int)) = false := decide_eq_false hn1
  have hd3 : decide ((32 : Int) < (X.length : Int)) = false := decide_eq_false (by omega)
  have hmk := makeBools35 m (by omega)
  obtain ⟨W1, hW1⟩ : ∃ W1, W1 = w.alloc (.cells (zerosA (.bool false) m) 4) := ⟨_, rfl⟩
  have hr1 : Row W1 w.heap.size 4 ((usedB m []).map Value.bool) := by rw [hW1, usedB_nil]; exact Row.zeros w 4 _ _
  have hx1 : Ext w W1 := by rw [hW1]; exact (Ext.refl w).alloc _
  have HR1 := Lib.hid hr1
  have HX1 := Lib.hid hx1
  have HAR := Lib.hid (fun (a : RA) PA PC W => rlArity_any a.ar PA a.P.length PC W)
  clear hr1 hx1
  go_enter Try.func24, Try.ntmps24
  go_wp2
  rw [← hW1]
  clear hW1 hn0 hn1 hd hd2 hd3 hmk
  go_loopw [24] (fun c wr => ∃ k : Nat, k ≤ X.length ∧ c = .int .i64 k ∧ Row wr w.heap.size 4 ((usedB m ((X.take k).flatMap (·.vs))).map Value.bool) ∧ Below w.heap.size w wr ∧ ∀ j (hj : j < X.length), j < k → errAt m X[j] = 0) (fun c _ => X.length - (intOf c).toNat)
  case atStart => exact ⟨0, Nat.zero_le _, rfl, HR1.out, HX1.out.below, fun j _ h => absurd h (by omega)⟩
  case round =>
    obtain ⟨k, hk, rfl, hrow, hbw, hall⟩ := hrel
    have HROW := Lib.hid hrow
    have HBW := Lib.hid hbw
    have HALL := Lib.hid hall
    clear hrow hbw hall HR1
    by_cases h1 : k < X.length
    · obtain ⟨b, o, VA, VC, PA, PC, rfl, hbl, c0, c1, c2, q1, q2, q3, q4, q5, q6⟩ := ats_at HA.out h1
      have c0 := (HBW.out.cell (p := ⟨b, o + k * 3, none⟩) hbl).trans c0
      have c1 := (HBW.out.cell (p := ⟨b, o + k * 3 + 1, none⟩) hbl).trans c1
      have c2 := (HBW.out.cell (p := ⟨b, o + k * 3 + 2, none⟩) hbl).trans c2
      have hb := Nat.lt_of_lt_of_le hbl HBW.out.size
      have hvl := HVL.out _ (List.getElem_mem h1)
      have HVS := Lib.hid q5
      have HTK : Hid ((X.take (k + 1)).flatMap (·.vs) = (X.take k).flatMap (·.vs) ++ X[k].vs) := by
        show _ = _
        rw [List.take_succ_eq_append_getElem h1, List.flatMap_append, List.flatMap_singleton]
      have HERR : Hid (errAt m X[k] ≠ 0 → errA m X = errAt m X[k]) := fun hne => errA_at HN.out hX h1 HALL.out hne
      have HNX : Hid (errAt m X[k] = 0 → ∀ j (hj : j < X.length), j < k + 1 → errAt m X[j] = 0) := fun h0 j hj hlt => by
        rcases Nat.lt_or_ge j k with h | h
        · exact HALL.out j hj h
        · have : j = k := by omega
          subst this
          exact h0
      clear q5 q6 q1 q2 q3 q4
      generalize X[k] = r at *
      have g1 : (0 : Int) ≤ (k : Int) := by omega
      have g2 : (k : Int) < (X.length : Int) := by omega
      have hw1 : IntKind.i64.wrap ((k : Int) + 1) = ((k + 1 : Nat) : Int) := by rw [IntWalk.i64_in _ (by omega)]; omega
      obtain ⟨wo, hwo⟩ : ∃ wo, wo = wr := ⟨_, rfl⟩
      subst hwo
      obtain ⟨W2, hW2⟩ : ∃ W2, W2 = wo.alloc (.cells #[.slice VA r.vs.length VC, .int .i64 r.ar, .slice PA r.P.length PC] 52) := ⟨_, rfl⟩
      have hr2 : Row W2 wo.heap.size 52 [.slice VA r.vs.length VC, .int .i64 r.ar, .slice PA r.P.length PC] := by rw [hW2]; exact Row.new wo 52 _
      have hx2 : Ext wo W2 := by rw [hW2]; exact (Ext.refl wo).alloc _
      have HR2 := Lib.hid hr2
      have HX2 := Lib.hid hx2
      have HBW2 := Lib.hid (Below.trans HBW.out (hx2.below.mono HBW.out.size))
      clear hr2 hx2
      go_wp2_with fail
      rw [← hW2]
      clear hW2 c0 c1 c2
      go_loopw [8] (fun c wx => ∃ i : Nat, 1 ≤ i ∧ c = .int .i64 i ∧ (∀ p (h : p + 1 < r.vs.length), p + 1 < i → r.vs[p] < r.vs[p + 1]) ∧ Ext W2 wx) (fun c _ => r.vs.length - (intOf c).toNat)
      case atStart => exact ⟨1, Nat.le_refl _, rfl, fun p _ h => absurd h (by omega), Ext.refl _⟩
      case round =>
        obtain ⟨i, hi1, rfl, hasc, hxi⟩ := hrel
        have HASC := Lib.hid hasc
        have HXI := Lib.hid hxi
        have hrx := HR2.out.up hxi.below
        have HRX := Lib.hid hrx
        have x0 : wr.cell? ⟨wo.heap.size, 0, none⟩ = some (.slice VA r.vs.length VC) := hrx.cell 0
        have x1 : wr.cell? ⟨wo.heap.size, 1, none⟩ = some (.int .i64 r.ar) := hrx.cell 1
        have x2 : wr.cell? ⟨wo.heap.size, 2, none⟩ = some (.slice PA r.P.length PC) := hrx.cell 2
        have hxz := hrx.lt
        have HBX := Lib.hid (Below.trans HBW2.out (hxi.below.mono HBW2.out.size))
        clear hasc hxi hrx
        by_cases h2 : i < r.vs.length
        · obtain ⟨vb, vo, hva, hvb, va⟩ := slI_at HVS.out (show i - 1 < r.vs.length by omega)
          obtain ⟨vb2, vo2, hva2, -, vc⟩ := slI_at HVS.out h2
          rw [hva] at hva2
          injection hva2 with hva2
          injection hva2 with e1 e2
          subst e1 e2 hva
          have va := (HBX.out.cell (p := ⟨vb, vo + (i - 1), none⟩) hvb).trans va
          have vc := (HBX.out.cell (p := ⟨vb, vo + i, none⟩) hvb).trans vc
          have hvb2 := Nat.lt_of_lt_of_le hvb HBX.out.size
          have HG : Hid (r.vs[i] ≤ r.vs[i - 1] → errAt m r = 16) := fun hge => by
            refine errAt_order (p := i - 1) (by omega) ?_
            have e : i - 1 + 1 = i := by omega
            simp only [e]
            exact hge
          have HL : Hid (¬ r.vs[i] ≤ r.vs[i - 1] → ∀ p (h : p + 1 < r.vs.length), p + 1 < i + 1 → r.vs[p] < r.vs[p + 1]) := fun hlt p h hp => by
            rcases Nat.lt_or_ge (p + 1) i with h3 | h3
            · exact HASC.out p h h3
            · have : i = p + 1 := by omega
              subst this
              have e : p + 1 - 1 = p := by omega
              simp only [e] at hlt
              omega
          generalize r.vs[i] = y at *
          generalize r.vs[i - 1] = z at *
          have hws : IntKind.i64.wrap ((i : Int) - 1) = ((i - 1 : Nat) : Int) := by rw [IntWalk.i64_in _ (by omega)]; omega
          have hwi : IntKind.i64.wrap ((i : Int) + 1) = ((i + 1 : Nat) : Int) := by rw [IntWalk.i64_in _ (by omega)]; omega
          have g3 : (0 : Int) ≤ ((i - 1 : Nat) : Int) := by omega
          have g4 : ((i - 1 : Nat) : Int) < (r.vs.length : Int) := by omega
          have g5 : (0 : Int) ≤ (i : Int) := by omega
          have g6 : (i : Int) < (r.vs.length : Int) := by omega
          by_cases hge : y ≤ z
          · have hdd : decide (y ≤ z) = true := decide_eq_true hge
            have HE := Lib.hid (HERR.out (by rw [HG.out hge]; decide))
            have HE2 := Lib.hid (HG.out hge)
            go_wp2
            go_quiet (fail)
            go_wp2
            go_ret
            exact ⟨by rw [HE.out, HE2.out]; rfl, Below.then HBX.out ((Ext.refl wr).drewN _).below HBX.out.size⟩
          · have hdd : decide (y ≤ z) = false := decide_eq_false hge
            have HL2 := Lib.hid (HL.out hge)
            clear HG HL
            go_wp2
            go_quiet (fail)
            go_wp2
            go_roundw
            case rel => exact ⟨i + 1, by omega, by go_num, HL2.out, HXI.out.drewN _⟩
            case measure => simp [intOf]; omega
        have HP : Hid (r.vs.Pairwise (· < ·)) := pairwise_adj _ fun p h => HASC.out p h (by omega)
        have HRW : Hid (Row wr w.heap.size 4 ((usedB m ((X.take k).flatMap (·.vs))).map Value.bool)) := (HROW.out.up HX2.out.below).up HXI.out.below
        have HUL : Hid (∀ S, (usedB m S).length = m) := fun S => by simp [usedB]
        obtain ⟨wp, hwp⟩ : ∃ wp, wp = wr := ⟨_, rfl⟩
        subst hwp
        clear HASC
        go_wp2_with fail
        go_loopw [50] (fun c wx => ∃ j : Nat, j ≤ r.vs.length ∧ c = .int .i64 j ∧ Row wx w.heap.size 4 ((usedB m ((X.take k).flatMap (·.vs) ++ r.vs.take j)).map Value.bool) ∧ Row wx wo.heap.size 52 [.slice VA r.vs.length VC, .int .i64 r.ar, .slice PA r.P.length PC] ∧ (∀ v ∈ r.vs.take j, 0 ≤ v ∧ v < (m : Int)) ∧ Below w.heap.size w wx) (fun c _ => r.vs.length - (intOf c).toNat)
        case atStart => exact ⟨0, Nat.zero_le _, rfl, by rw [List.take_zero, List.append_nil]; exact HRW.out, HRX.out, fun v hv => by simp at hv, HBX.out⟩
        case round =>
          obtain ⟨j, hj, rfl, hrow, hax, hrg, hbw⟩ := hrel
          have HROWJ := Lib.hid hrow
          have HAXJ := Lib.hid hax
          have HRG := Lib.hid hrg
          have HBWJ := Lib.hid hbw
          have hzj := hbw.size
          clear hrow hax hrg hbw x0 x1 x2
          by_cases h3 : j < r.vs.length
          · obtain ⟨vb, vo, hva, hvb, vc⟩ := slI_at HVS.out h3
            subst hva
            have vc := (HBWJ.out.cell (p := ⟨vb, vo + j, none⟩) hvb).trans vc
            have hvb2 := Nat.lt_of_lt_of_le hvb hzj
            have HVM : Hid (r.vs[j] ∈ r.vs) := List.getElem_mem h3
            have HTJ : Hid (r.vs.take (j + 1) = r.vs.take j ++ [r.vs[j]]) := List.take_succ_eq_append_getElem h3
            generalize r.vs[j] = v at *
            have g3 : (0 : Int) ≤ (j : Int) := by omega
            have g4 : (j : Int) < (r.vs.length : Int) := by omega
            have hwj : IntKind.i64.wrap ((j : Int) + 1) = ((j + 1 : Nat) : Int) := by rw [IntWalk.i64_in _ (by omega)]; omega
            by_cases hv0 : v < 0
            · have hE2 := errAt_range HP.out HVM.out (.inl hv0 : v < 0 ∨ (m : Int) ≤ v)
              have HE := Lib.hid (HERR.out (by rw [hE2]; decide))
              have HE2 := Lib.hid hE2
              have hdd : decide (v < 0) = true := decide_eq_true hv0
              clear hE2
              go_wp2
              go_ret
              exact ⟨by rw [HE.out, HE2.out]; rfl, HBWJ.out⟩
            by_cases hvm : (m : Int) ≤ v
            · have hE2 := errAt_range HP.out HVM.out (.inr hvm : v < 0 ∨ (m : Int) ≤ v)
              have HE := Lib.hid (HERR.out (by rw [hE2]; decide))
              have HE2 := Lib.hid hE2
              have hdd : decide (v < 0) = false := decide_eq_false hv0
              have hdd2 : decide ((m : Int) ≤ v) = true := decide_eq_true hvm
              clear hE2
              go_wp2
              go_ret
              exact ⟨by rw [HE.out, HE2.out]; rfl, HBWJ.out⟩
            obtain ⟨y, rfl⟩ : ∃ y : Nat, v = (y : Int) := ⟨v.toNat, by omega⟩
            have hdd : decide ((y : Int) < 0) = false := decide_eq_false hv0
            have hdd2 : decide ((m : Int) ≤ (y : Int)) = false := decide_eq_false hvm
            have hym : y < m := by omega
            have g5 : (0 : Int) ≤ (y : Int) := by omega
            have g6 : (y : Int) < (m : Int) := by omega
            obtain ⟨uc, hu⟩ : ∃ uc, wr.cell? ⟨w.heap.size, y, none⟩ = some uc := ⟨_, HROWJ.out.cell_ (by rw [List.length_map, HUL.out]; exact hym)⟩
            have hf := HROWJ.out.frozen y
            go_wp2
            go_roundw
            case rel =>
              refine ⟨j + 1, h3, by go_num, ?_, HAXJ.out.far (by have := HBW.out.size; have h9 : w.heap.size < wo.heap.size := HROW.out.lt; show wo.heap.size ≠ w.heap.size; omega) _, fun v hv => ?_, HBWJ.out.setCell (Nat.le_refl _) _⟩
              · rw [HTJ.out, ← List.append_assoc, ← usedB_set hym, List.map_set]
                exact HROWJ.out.set _ _
              · rw [HTJ.out] at hv
                rcases List.mem_append.1 hv with h | h
                · exact HRG.out v h
                · simp at h; subst h; exact ⟨g5, g6⟩
            case measure => simp [intOf]; omega
          have HJE : Hid (j = r.vs.length) := by show _ = _; omega
          have hEA : errAt m r = if (r.vs.length : Int) = r.ar then 0 else 6 := errAt_arity HP.out (fun v hv => HRG.out v (by rw [HJE.out, List.take_length]; exact hv))
          have HEA := Lib.hid hEA
          have HUS : Hid (Row wr w.heap.size 4 ((usedB m ((X.take (k + 1)).flatMap (·.vs))).map Value.bool)) := by
            have h := HROWJ.out
            rw [HJE.out, List.take_length, ← HTK.out] at h
            exact h
          have y0 : wr.cell? ⟨wo.heap.size, 0, none⟩ = some (.slice VA r.vs.length VC) := HAXJ.out.cell 0
          have y1 : wr.cell? ⟨wo.heap.size, 1, none⟩ = some (.int .i64 r.ar) := HAXJ.out.cell 1
          have y2 : wr.cell? ⟨wo.heap.size, 2, none⟩ = some (.slice PA r.P.length PC) := HAXJ.out.cell 2
          have hyz := HAXJ.out.lt
          have HA1 := Lib.hid (HAR.out r PA PC)
          clear hEA
          generalize r.vs.length = vl at *
          generalize r.P.length = pl at *
          generalize r.ar = ar at *
          go_wp2_with fail
          refine wp_region_held_drew (S := (fun w' => w'.cell? ⟨wo.heap.size, 0, none⟩ = some (.slice VA vl VC) ∧ w'.cell? ⟨wo.heap.size, 1, none⟩ = some (.int .i64 ar) ∧ w'.cell? ⟨wo.heap.size, 2, none⟩ = some (.slice PA pl PC))) (by kernel_rfl) ⟨y0, y1, y2⟩ (fun hHeld => ?_)
          refine takeOp (i := 0) (v := ?_) (some 65) rfl rfl (by kernel_rfl) (by kernel_rfl) (by kernel_rfl) (fun _ _ _ h => h) (Or.inl ⟨by rfl, ?_⟩) (by assumption) ?_
          rotate_left 1
          · (intro w0 hSw; (try dsimp only at hSw); go_simp; try (with_reducible rfl))
          try simp only [Act.put]
          try simp only [List.setIfInBounds_toArray]
          try simp only [List.set_cons_succ]
          try simp only [List.set_cons_zero]
          refine takeOp (i := 1) (v := ?_) (some 66) rfl rfl (by kernel_rfl) (by kernel_rfl) (by kernel_rfl) (fun _ _ _ h => h) (Or.inl ⟨by rfl, ?_⟩) (by assumption) ?_
          rotate_left 1
          · (intro w0 hSw; (try dsimp only at hSw); go_simp; try (with_reducible rfl))
          try simp only [Act.put]
          try simp only [List.setIfInBounds_toArray]
          try simp only [List.set_cons_succ]
          try simp only [List.set_cons_zero]
          refine takeOp (i := 2) (v := ?_) (some 67) rfl rfl (by kernel_rfl) (by kernel_rfl) (by kernel_rfl) (fun _ _ _ h => h) (Or.inl ⟨by rfl, ?_⟩) (by assumption) ?_
          rotate_left 1
          · (intro w0 hSw; (try dsimp only at hSw); go_simp; try (with_reducible rfl))
          try simp only [Act.put]
          try simp only [List.setIfInBounds_toArray]
          try simp only [List.set_cons_succ]
          try simp only [List.set_cons_zero]
          refine takeOp (i := 3) (v := ?_) (some 68) rfl rfl (by kernel_rfl) (by kernel_rfl) (by kernel_rfl) (fun _ _ _ h => h) (Or.inl ⟨by rfl, ?_⟩) (by assumption) ?_
          rotate_left 1
          · (intro w0 hSw; (try dsimp only at hSw); go_simp; try (with_reducible rfl))
          try simp only [Act.put]
          try simp only [List.setIfInBounds_toArray]
          try simp only [List.set_cons_succ]
          try simp only [List.set_cons_zero]
          refine takeOp (i := 4) (v := ?_) (some 69) rfl rfl (by kernel_rfl) (by kernel_rfl) (by kernel_rfl) (fun _ _ _ h => h) (Or.inl ⟨by rfl, ?_⟩) (by assumption) ?_
          rotate_left 1
          · (intro w0 hSw; (try dsimp only at hSw); go_simp; try (with_reducible rfl))
          try simp only [Act.put]
          try simp only [List.setIfInBounds_toArray]
          try simp only [List.set_cons_succ]
          try simp only [List.set_cons_zero]
          refine wpAnyH_ready (rs := [5]) (by kernel_rfl) (by simp) ?_
          refine AllReadyH.cons rfl (fun K hK => ?_) AllReadyH.nil
          go_simp
          refine (HA1.out wr.drew).mono ?_
          rintro e w6 ⟨rfl, hx6⟩
          have hx7 : Ext wr w6 := (Ext.refl wr).drew.trans hx6
          have KEEP : w6.cell? ⟨wo.heap.size, 0, none⟩ = some (.slice VA vl VC) ∧ w6.cell? ⟨wo.heap.size, 1, none⟩ = some (.int .i64 ar) ∧ w6.cell? ⟨wo.heap.size, 2, none⟩ = some (.slice PA pl PC) := ⟨(hx7.cell hyz).trans y0, (hx7.cell hyz).trans y1, (hx7.cell hyz).trans y2⟩
          have HX7 := Lib.hid hx7
          clear hx6 hx7
          go_wp2_with fail
          refine hK.out _ _ KEEP (fun hHeld => ?_)
          clear hK K
          try simp only [Act.put]
          try simp only [List.setIfInBounds_toArray]
          try simp only [List.set_cons_succ]
          try simp only [List.set_cons_zero]
          refine takeOp (i := 6) (v := ?_) (some 71) rfl rfl (by kernel_rfl) (by kernel_rfl) (by kernel_rfl) (fun _ _ _ h => h) (Or.inl ⟨by rfl, ?_⟩) (by assumption) ?_
          rotate_left 1
          · (intro w0 hSw; (try dsimp only at hSw); go_simp; try (with_reducible rfl))
          try simp only [Act.put]
          try simp only [List.setIfInBounds_toArray]
          try simp only [List.set_cons_succ]
          try simp only [List.set_cons_zero]
          refine wpAnyH_done (by kernel_rfl) ?_ _
          have HBW7 := Lib.hid (Below.then HBWJ.out HX7.out.below hzj)
          by_cases he : (vl : Int) = ar
          · have hnb : ((vl : Int) != ar) = false := by simp [he]
            have HZ := Lib.hid (HNX.out (by rw [HEA.out, if_pos he]))
            have HU7 := Lib.hid (HUS.out.up HX7.out.below)
            clear he
            go_wp2
            go_roundw
            case rel => exact ⟨k + 1, h1, by go_num, HU7.out, HBW7.out, HZ.out⟩
            case measure => simp [intOf]; omega
          · have hnb : ((vl : Int) != ar) = true := by simpa using he
            have HE := Lib.hid (HERR.out (by rw [HEA.out, if_neg he]; decide))
            have HE2 := Lib.hid (HEA.out.trans (if_neg he))
            clear he
            go_wp2
            go_ret
            exact ⟨by rw [HE.out, HE2.out]; rfl, HBW7.out⟩
    have HKE : Hid (k = X.length) := by show _ = _; omega
    have HEND : Hid (errA m X = if (List.range m).any (fun v => X.all fun a => decide ((v : Int) ∉ a.vs)) then 22 else 0) := by
      have h := errA_end HN.out hX (fun j hj => HALL.out j hj (by rw [HKE.out]; exact hj))
      rw [Int.toNat_natCast] at h
      exact h
    have hrow : Row wr w.heap.size 4 ((usedB m (X.flatMap (·.vs))).map Value.bool) := by
      have h := HROW.out
      rw [HKE.out, List.take_length] at h
      exact h
    have hul : (usedB m (X.flatMap (·.vs))).length = m := by simp [usedB]
    have hcb := containsBool_any w.heap.size m (usedB m (X.flatMap (·.vs))) wr hrow (by rw [hul]; omega)
    rw [hul] at hcb
    have HCB := Lib.hid hcb
    clear hrow hul hcb
    go_wp2_with fail
    refine HCB.out.mono ?_
    rintro e w2 ⟨rfl, rfl⟩
    have HF := Lib.hid (usedB_false (m := m) (X := X))
    by_cases hf : false ∈ usedB m (X.flatMap (·.vs))
    · have HE : Hid (errA m X = 22) := by
        show _ = _
        rw [HEND.out, if_pos (HF.out.1 hf)]
      rw [decide_eq_true hf]
      clear hf
      go_wp2
      go_ret
      exact ⟨by rw [HE.out]; rfl, HBW.out⟩
    · have HE : Hid (errA m X = 0) := by
        show _ = _
        rw [HEND.out, if_neg (fun h => hf (HF.out.2 h))]
      rw [decide_eq_false hf]
      clear hf
      go_wp2
      go_ret
      exact ⟨by rw [HE.out]; rfl, HBW.out⟩

end Go.Proofs.Ytiomelogggilgaa
end

section
/- Walk: leapfrog's Each; what it asks of the function that is passed in. -/
namespace Go.Proofs.Ytiomelogggilgaa
open Go.RowKit Go.Sort

/-- A function to which Each passes rows: each row is the function's to keep. -/
structure YieldC (yf : Nat) (cap : Array Value) (go : List RL.R → Bool) (Inv : List RL.R → (Nat → Prop) → World → Prop) (M D : Nat) : Prop where
  enter : ∀ args w, (callFunc yf args).run Try.prog w = .ok (.enter yf args) w
  keep : ∀ L O w w', Inv L O w → (∀ b, O b → b < w.heap.size) → (∀ b, O b → w'.heap[b]? = w.heap[b]?) → w.heap.size ≤ w'.heap.size → Inv L O w'
  step : ∀ L O w base v (x : RL.R), Inv L O w → (∀ b, O b → b < w.heap.size) → w.ownsRow base 41 3 v x.length (rcells x) → (∀ b, v.ownBlock = some b → ¬ O b) → x.length ≤ D → L.length < M →
    Calls Try.prog yf (#[v] ++ cap) w fun e w' => e = .returned (.bool (go (L ++ [x]))) ∧ ∃ O' : Nat → Prop, Inv (L ++ [x]) O' w' ∧ (∀ b, O' b → b < w'.heap.size ∧ (O b ∨ v.ownBlock = some b ∨ w.heap.size ≤ b)) ∧ Chg O w w'

/-- The state of Each's own function: that of the function passed in, and the box that holds it. -/
def EInv (Inv : List RL.R → (Nat → Prop) → World → Prop) (uf : Nat) (ucap : Array Value) (yb : Nat) (L : List RL.R) (O2 : Nat → Prop) (w : World) : Prop :=
  ∃ O : Nat → Prop, Inv L O w ∧ (∀ b, O2 b ↔ O b ∨ b = yb) ∧ ¬ O yb ∧ Row w yb 35 [.func (.func uf) #[] ucap]

set_option maxHeartbeats 4000000 in
set_option maxRecDepth 100000 in
theorem each1_step {uf : Nat} {ucap : Array Value} {go : List RL.R → Bool} {Inv : List RL.R → (Nat → Prop) → World → Prop} {M : Nat} (hU : YieldC uf ucap go Inv M 64) (yb : Nat) (L : List RL.R) (O2 : Nat → Prop) (w : World) (A : Option Addr) (C : Nat) (x : RL.R) (hI : EInv Inv uf ucap yb L O2 w) (hO : ∀ b, O2 b → b < w.heap.size) (hx : SlR w.heap.size w A x) (hxl : x.length ≤ 64) (hL : L.length < M) :
    Calls Try.prog 31 #[.slice A x.length C, .pointer (some ⟨yb, 0, none⟩)] w fun e w' => e = .returned (.bool (go (L ++ [x]))) ∧ ∃ O' : Nat → Prop, EInv Inv uf ucap yb (L ++ [x]) O' w' ∧ (∀ b, O' b → b < w'.heap.size ∧ (O2 b ∨ w.heap.size ≤ b)) ∧ Chg O2 w w' := by
  obtain ⟨O, hI1, hO2, hny, hrow⟩ := hI
  have y0 : w.cell? ⟨yb, 0, none⟩ = some (.func (.func uf) #[] ucap) := hrow.cell 0
  have hyz := hrow.lt
  have HROW := Lib.hid hrow
  have HU := Lib.hid hU
  have HI := Lib.hid hI1
  have HO2 := Lib.hid hO2
  have HNY := Lib.hid hny
  have HO := Lib.hid hO
  have HCL := Lib.hid (fun W (hW : Ext w W) => cloneRow_any A C x W (hx.up hW) (by omega))
  have eg := hU.enter
  clear hU hI1 hO2 hny hrow hO hx
  go_enter Try.func31, Try.ntmps31
  go_wp2_with fail
  refine wp_region_held_drew (S := (fun w' => w'.cell? ⟨yb, 0, none⟩ = some (.func (.func uf) #[] ucap))) (by kernel_rfl) y0 (fun hHeld => ?_)
  refine takeOp (i := 0) (v := ?_) (some 4) rfl rfl (by kernel_rfl) (by kernel_rfl) (by kernel_rfl) (fun _ _ _ h => h) (Or.inl ⟨by rfl, ?_⟩) (by assumption) ?_
  rotate_left 1
  · (intro w0 hSw; (try dsimp only at hSw); go_simp; try (with_reducible rfl))
  try simp only [Act.put]
  try simp only [List.setIfInBounds_toArray]
  try simp only [List.set_cons_succ]
  try simp only [List.set_cons_zero]
  refine takeOp (i := 1) (v := ?_) (some 5) rfl rfl (by kernel_rfl) (by kernel_rfl) (by kernel_rfl) (fun _ _ _ h => h) (Or.inl ⟨by rfl, ?_⟩) (by assumption) ?_
  rotate_left 1
  · (intro w0 hSw; (try dsimp only at hSw); go_simp; try (with_reducible rfl))
  try simp only [Act.put]
  try simp only [List.setIfInBounds_toArray]
  try simp only [List.set_cons_succ]
  try simp only [List.set_cons_zero]
  refine wpAnyH_ready (rs := [2]) (by kernel_rfl) (by simp) ?_
  refine AllReadyH.cons rfl (fun K hK => ?_) AllReadyH.nil
  go_simp
  refine (HCL.out w.drew (Ext.refl w).drew).mono ?_
  rintro e w2 ⟨v, rfl, hown, hb2⟩
  have hb2' : Below w.heap.size w w2 := Below.undrew hb2
  have KEEP : w2.cell? ⟨yb, 0, none⟩ = some (.func (.func uf) #[] ucap) := (hb2'.cell (p := ⟨yb, 0, none⟩) hyz).trans y0
  have HOWN := Lib.hid hown
  have HB2 := Lib.hid hb2'
  clear hown hb2 hb2'
  go_wp2_with fail
  refine hK.out _ _ KEEP (fun hHeld => ?_)
  clear hK K
  try simp only [Act.put]
  try simp only [List.setIfInBounds_toArray]
  try simp only [List.set_cons_succ]
  try simp only [List.set_cons_zero]
  refine wpAnyH_ready (rs := [3]) (by kernel_rfl) (by simp) ?_
  refine AllReadyH.cons rfl (fun K hK => ?_) AllReadyH.nil
  go_simp
  have hOw : ∀ b, O b → b < w.heap.size := fun b hb => HO.out b ((HO2.out b).2 (.inl hb))
  have hI2 := HU.out.keep L O w w2 HI.out hOw (fun b hb => HB2.out.block b (hOw b hb)) HB2.out.size
  refine (HU.out.step L O w2 _ v x hI2 (fun b hb => Nat.lt_of_lt_of_le (hOw b hb) HB2.out.size) HOWN.out (fun b hb ho => by have h1 := own_base HOWN.out hb; have h2 := hOw b ho; exact absurd h1 (by show ¬ w.heap.size ≤ b; omega)) hxl hL).mono ?_
  rintro e w3 ⟨rfl, O3, hI3, hO3, hc3⟩
  have hyr : Row w3 yb 35 [.func (.func uf) #[] ucap] := (HROW.out.up HB2.out).chg hc3 HNY.out
  have KEEP2 : w3.cell? ⟨yb, 0, none⟩ = some (.func (.func uf) #[] ucap) := hyr.cell 0
  have HFIN : Hid (∃ O' : Nat → Prop, EInv Inv uf ucap yb (L ++ [x]) O' w3 ∧ (∀ b, O' b → b < w3.heap.size ∧ (O2 b ∨ w.heap.size ≤ b)) ∧ Chg O2 w w3) := by
    have hvb : ∀ b, v.ownBlock = some b → w.heap.size ≤ b := fun b hb => own_base HOWN.out hb
    refine ⟨fun b => O3 b ∨ b = yb, ⟨O3, hI3, fun b => Iff.rfl, fun h => ?_, hyr⟩, fun b hb => ?_, (Chg.of_below HB2.out fun k h1 h2 => absurd h1 (by omega)).then hc3 fun b _ hb => (HO2.out b).2 (.inl hb)⟩
    · rcases (hO3 yb h).2 with h1 | h1 | h1
      · exact HNY.out h1
      · have := hvb yb h1; omega
      · have := HB2.out.size; omega
    · rcases hb with hb | rfl
      · refine ⟨(hO3 b hb).1, ?_⟩
        rcases (hO3 b hb).2 with h1 | h1 | h1
        · exact .inl ((HO2.out b).2 (.inl h1))
        · exact .inr (hvb b h1)
        · exact .inr (Nat.le_trans HB2.out.size h1)
      · exact ⟨hyr.lt, .inl ((HO2.out b).2 (.inr rfl))⟩
  clear hOw hI2 hI3 hO3 hc3 hyr
  go_wp2_with fail
  refine hK.out _ _ KEEP2 (fun hHeld => ?_)
  clear hK K
  try simp only [Act.put]
  try simp only [List.setIfInBounds_toArray]
  try simp only [List.set_cons_succ]
  try simp only [List.set_cons_zero]
  refine takeOp (i := 4) (v := ?_) (some 3) rfl rfl (by kernel_rfl) (by kernel_rfl) (by kernel_rfl) (fun _ _ _ h => h) (Or.inl ⟨by rfl, ?_⟩) (by assumption) ?_
  rotate_left 1
  · (intro w0 hSw; (try dsimp only at hSw); go_simp; try (with_reducible rfl))
  try simp only [Act.put]
  try simp only [List.setIfInBounds_toArray]
  try simp only [List.set_cons_succ]
  try simp only [List.set_cons_zero]
  refine wpAnyH_done (by kernel_rfl) ?_ _
  go_wp2
  go_ret
  exact ⟨rfl, HFIN.out⟩
theorem each1_yield {uf : Nat} {ucap : Array Value} {go : List RL.R → Bool} {Inv : List RL.R → (Nat → Prop) → World → Prop} {M : Nat} (hU : YieldC uf ucap go Inv M 64) (yb : Nat) : Yield 31 #[.pointer (some ⟨yb, 0, none⟩)] go (EInv Inv uf ucap yb) M 64 where
  enter := enters_of Try.func31 (by kernel_rfl) rfl
  keep L O w w' := fun ⟨O1, h1, h2, h3, h4⟩ hlt hk hz => ⟨O1, hU.keep L O1 w w' h1 (fun b hb => hlt b ((h2 b).2 (.inl hb))) (fun b hb => hk b ((h2 b).2 (.inl hb))) hz, h2, h3, (hk yb ((h2 yb).2 (.inr rfl))).trans h4⟩
  step L O w A C x hI hO hx _ _ _ hD hL := each1_step hU yb L O w A C x hI hO hx hD hL

end Go.Proofs.Ytiomelogggilgaa
end

section
/- Walk: leapfrog's Each. -/
namespace Go.Proofs.Ytiomelogggilgaa
open Go.RowKit Go.Sort

/-- What is asked of an atom's relation. -/
structure RelOk (M : Nat) (a : RA) : Prop where
  ss : RL.SS a.P
  len : ∀ r ∈ a.P, (r.length : Int) = a.ar
  ok : RsOk a.P
  many : a.P.length ≤ 60000
  M : ∀ q, (RL.kids a.at.d a.at.P q).length ≤ M
theorem errAt_zero {n : Int} {a : RA} (h : errAt n a = 0) : a.vs.Pairwise (· < ·) ∧ (∀ v ∈ a.vs, 0 ≤ v ∧ v < n) ∧ (a.vs.length : Int) = a.ar := by
  unfold errAt at h
  split at h
  · cases h
  · rename_i h1
    split at h
    · cases h
    · rename_i h2
      split at h
      · cases h
      · rename_i h3
        refine ⟨by simpa using h1, fun v hv => ?_, by simpa using h3⟩
        exact ⟨Int.not_lt.1 fun hb => h2 ⟨v, hv, .inl hb⟩, Int.not_le.1 fun hb => h2 ⟨v, hv, .inr hb⟩⟩
theorem errA_zero {n : Int} {X : List RA} (h : errA n X = 0) : ∃ m : Nat, n = (m : Int) ∧ m ≤ 32 ∧ X.length ≤ 32 ∧ (∀ a ∈ X, errAt n a = 0) ∧ ∀ v : Nat, v < m → ∃ a ∈ X, (v : Int) ∈ a.vs := by
  unfold errA at h
  split at h
  · cases h
  · rename_i h1
    split at h
    · cases h
    · rename_i h2
      split at h
      · rename_i a ha
        have := List.find?_some ha
        simp [h] at this
      · rename_i ha
        refine ⟨n.toNat, by omega, by omega, by omega, fun a hm => ?_, fun v hv => ?_⟩
        · have := List.find?_eq_none.1 ha a hm
          simpa using this
        · split at h
          · cases h
          · rename_i h3
            refine Classical.byContradiction fun hno => h3 (List.any_eq_true.2 ⟨v, List.mem_range.2 hv, List.all_eq_true.2 fun a hm => decide_eq_true fun hv2 => hno ⟨a, hm, hv2⟩⟩)
theorem raOk_of {m M : Nat} {a : RA} (h : errAt (m : Int) a = 0) (hr : RelOk M a) : RAOk m M a := by
  obtain ⟨h1, h2, h3⟩ := errAt_zero h
  refine ⟨⟨?_, fun v hv => ?_, fun r hm => ?_, hr.ss⟩, fun v hv => (h2 v hv).1, h3.symm, hr.ok, hr.many, hr.M⟩
  · show (a.vs.map Int.toNat).Pairwise (· < ·)
    refine List.pairwise_map.2 (h1.imp_of_mem fun {x y} hx hy hxy => ?_)
    have := h2 x hx
    have := h2 y hy
    omega
  · obtain ⟨u, hu, rfl⟩ := List.mem_map.1 hv
    have := h2 u hu
    omega
  · have h4 := hr.len r hm
    show r.length = (a.vs.map Int.toNat).length
    rw [List.length_map]
    omega
theorem used_of {m : Nat} {X : List RA} (h : ∀ v : Nat, v < m → ∃ a ∈ X, (v : Int) ∈ a.vs) : ∀ v, v < m → ∃ a ∈ X, v ∈ a.at.vs := fun v hv => by
  obtain ⟨a, ha, hm⟩ := h v hv
  exact ⟨a, ha, List.mem_map.2 ⟨_, hm, by simp⟩⟩

/-- What Each leaves. -/
def EachPost (n : Int) (X : List RA) (go : List RL.R → Bool) (Inv : List RL.R → (Nat → Prop) → World → Prop) (L : List RL.R) (O0 : Nat → Prop) (w : World) (e : Ending) (w' : World) : Prop :=
  (errA n X ≠ 0 → e = .returned (.tuple #[.int .i64 0, .int .i64 (errA n X)]) ∧ Below w.heap.size w w') ∧
  (errA n X = 0 → RunPost n.toNat (X.map RA.at) go Inv L O0 w e w')

set_option maxHeartbeats 4000000 in
set_option maxRecDepth 100000 in
theorem lfEach_any (n : Int) (AA : Option Addr) (AC : Nat) (X : List RA) (uf : Nat) (ucap : Array Value) (go : List RL.R → Bool) (Inv : List RL.R → (Nat → Prop) → World → Prop) (N M : Nat) (hU : YieldC uf ucap go Inv N 64) (L : List RL.R) (O0 : Nat → Prop) (w : World) (hA : AtsM w.heap.size w AA X) (hXl : X.length ≤ 9223372036854775807) (hvl : ∀ a ∈ X, a.vs.length ≤ 1000000)
    (hok : ∀ a ∈ X, RelOk M a) (hc : errA n X = 0 → costN M (meetN 64 M) n.toNat * 200002 ≤ 100000000000000000) (hI : Inv L O0 w) (hO : ∀ b, O0 b → b < w.heap.size) (hL : errA n X = 0 → L.length + (joinF n.toNat (X.map RA.at)).length ≤ N) :
    Calls Try.prog 12 #[.int .i64 n, .func (.func uf) #[] ucap, .slice AA X.length AC] w (EachPost n X go Inv L O0 w) := by
  obtain ⟨W1, hW1⟩ : ∃ W1, W1 = w.alloc (.cells #[.func (.func uf) #[] ucap] 35) := ⟨_, rfl⟩
  have hr1 : Row W1 w.heap.size 35 [.func (.func uf) #[] ucap] := by rw [hW1]; exact Row.new w 35 _
  have hx1 : Ext w W1 := by rw [hW1]; exact (Ext.refl w).alloc _
  have HCK := Lib.hid (lfCheck_any n AA AC X W1 (hA.upB hx1.below) hXl hvl)
  have HR1 := Lib.hid hr1
  have HX1 := Lib.hid hx1
  have HA := Lib.hid hA
  have HOK := Lib.hid hok
  have HU := Lib.hid hU
  have HI := Lib.hid hI
  have HO := Lib.hid hO
  have HC := Lib.hid hc
  have HL := Lib.hid hL
  have hwz := hr1.lt
  have hmf : ∀ (fn : Fn) (first cap : Array Value) (w : World), (Instr.makeFunc fn first cap).run Try.prog w = .ok (.func fn first cap) w := fun _ _ _ _ => rfl
  have heq : ∀ w : World, Sem.run Try.prog (binOp BinOp.eql 35 (Value.func (Fn.func uf) #[] ucap) Value.nilFunc) w = .ok (.bool false) w := fun w => by
    rfl
  clear hA hok hU hI hO hc hL hr1 hx1 hvl hXl
  go_enter Try.func12, Try.ntmps12
  go_wp2_with fail
  rw [← hW1]
  clear hW1
  refine HCK.out.mono ?_
  rintro e w2 ⟨rfl, hb2⟩
  have HB2 := Lib.hid (Below.then HX1.out.below hb2 HX1.out.size)
  have hr2 := HR1.out.up hb2
  have y0 : w2.cell? ⟨w.heap.size, 0, none⟩ = some (.func (.func uf) #[] ucap) := hr2.cell 0
  have HR2 := Lib.hid hr2
  have hz2 := hr2.lt
  clear hb2 hr2 HCK HR1
  by_cases he : errA n X = 0
  rotate_left
  · have hnb : (errA n X != 0) = true := by simpa using he
    have HE : Hid (errA n X ≠ 0) := he
    clear he
    go_wp2
    go_ret2
    exact ⟨fun _ => ⟨rfl, HB2.out⟩, fun h => absurd h HE.out⟩
  have hnb : (errA n X != 0) = false := by simp [he]
  obtain ⟨m, rfl, hm, hXl, hat, hu⟩ := errA_zero he
  have HRUN := Lib.hid (lfRun_any m AA AC X 31 #[.pointer (some ⟨w.heap.size, 0, none⟩)] go (EInv Inv uf ucap w.heap.size) N M (each1_yield HU.out w.heap.size) L (fun b => O0 b ∨ b = w.heap.size) w2 (HA.out.upB HB2.out) (fun a ha => raOk_of (hat a ha) (HOK.out a ha)) (used_of hu) hm hXl (by have h := HC.out he; rw [Int.toNat_natCast] at h; exact h)
    ⟨O0, HU.out.keep L O0 w w2 HI.out HO.out (fun b hb => HB2.out.block b (HO.out b hb)) HB2.out.size, fun b => Iff.rfl, fun h => Nat.lt_irrefl _ (HO.out _ h), HR2.out⟩ (fun b hb => by
      rcases hb with hb | hb
      · exact Nat.lt_of_lt_of_le (HO.out b hb) HB2.out.size
      · rw [hb]; exact hz2) (by have h := HL.out he; rw [Int.toNat_natCast] at h; exact h))
  have HE := Lib.hid he
  rw [he]
  clear hat hu he hXl hnb
  go_wp2_with fail
  refine HRUN.out.mono ?_
  rintro e w3 ⟨st, rfl, hs1, hs2, O', ⟨O1, hi1, ho1, hn1, hr3⟩, hO', hc3⟩
  have HS := Lib.hid (And.intro hs1 hs2)
  have HFIN : Hid (∃ O' : Nat → Prop, Inv (feed go L (joinF m (X.map RA.at))).1 O' w3 ∧ (∀ b, O' b → b < w3.heap.size ∧ (O0 b ∨ w.heap.size ≤ b)) ∧ Chg O0 w w3) := by
    refine ⟨O1, hi1, fun b hb => ?_, (Chg.of_below HB2.out fun k h1 h2 => absurd h1 (by omega)).then hc3 fun x hx hb => ?_⟩
    · obtain ⟨h1, h2⟩ := hO' b ((ho1 b).2 (.inl hb))
      refine ⟨h1, ?_⟩
      rcases h2 with (h2 | h2) | h2
      · exact .inl h2
      · exact .inr (by omega)
      · exact .inr (Nat.le_trans HB2.out.size h2)
    · rcases hb with hb | hb
      · exact hb
      · omega
  clear hs1 hs2 hi1 ho1 hn1 hr3 hO' hc3 HRUN
  go_wp2
  go_ret2
  refine ⟨fun h => absurd HE.out h, fun _ => ?_⟩
  rw [Int.toNat_natCast]
  obtain ⟨O'', k1, k2, k3⟩ := HFIN.out
  exact ⟨st, rfl, HS.out.1, HS.out.2, O'', k1, k2, k3⟩

end Go.Proofs.Ytiomelogggilgaa
end

section
/- A box in which a function collects the rows passed to it; leapfrog's Join. -/
namespace Go.Proofs.Ytiomelogggilgaa
open Go.RowKit Go.Sort

structure ColM (gb B : Nat) (L : List RL.R) (O : Nat → Prop) (w : World) (v : Value) (hs : List Value) : Prop where
  row : Row w gb 32 [v]
  own : w.ownsRow B 34 1 v L.length hs
  lt : gb < B
  el : ∀ i (h : i < L.length), ∃ A' C', hs[i]? = some (.slice A' L[i].length C') ∧ L[i].length ≤ C' ∧ C' ≤ 9223372036854775807 ∧ SlR w.heap.size w A' L[i]
  blk : ∀ (i : Nat) (u : Value) (b : Nat), hs[i]? = some u → u.ownBlock = some b → O b ∧ b ≠ gb ∧ v.ownBlock ≠ some b
  sep : ∀ (i j : Nat) (u u' : Value) (b : Nat), hs[i]? = some u → hs[j]? = some u' → i ≠ j → u.ownBlock = some b → u'.ownBlock ≠ some b
  og : O gb
  ov : ∀ b, v.ownBlock = some b → O b
  z : B ≤ w.heap.size
  fz : ∀ (i : Nat) (u : Value) (b : Nat), hs[i]? = some u → u.ownBlock = some b → ∀ o, w.frozen? ⟨b, o, none⟩ = false
theorem frozen_same {w w' : World} {b o : Nat} (h : w'.heap[b]? = w.heap[b]?) : w'.frozen? ⟨b, o, none⟩ = w.frozen? ⟨b, o, none⟩ := by simp [World.frozen?, h]
def ColI (gb B : Nat) (L : List RL.R) (O : Nat → Prop) (w : World) : Prop := ∃ v hs, ColM gb B L O w v hs

theorem own_same {w w' : World} {base size : Nat} {e : TypeId} {v : Value} {n : Nat} {xs : List Value} (h : w.ownsRow base e size v n xs) (hk : ∀ b, v.ownBlock = some b → w'.heap[b]? = w.heap[b]?) : w'.ownsRow base e size v n xs := by
  refine ⟨h.1, ?_⟩
  rcases h.2 with h1 | ⟨g, cap, cur, rfl, h2, h3, h4⟩
  · exact .inl h1
  · exact .inr ⟨g, cap, cur, rfl, h2, (hk g rfl).trans h3, h4⟩
theorem SlR.same {w w' : World} {A : Option Addr} {x : RL.R} (h : SlR w.heap.size w A x) (hk : ∀ ad, A = some ad → w'.heap[ad.block]? = w.heap[ad.block]?) (hz : w.heap.size ≤ w'.heap.size) : SlR w'.heap.size w' A x := fun hn => by
  obtain ⟨b, o, e, hb, hc⟩ := h hn
  exact ⟨b, o, e, by omega, fun i u hu => (World.cell?_of_block (a := ⟨b, o + i, none⟩) (hk ⟨b, o, none⟩ e)).trans (hc i u hu)⟩

section
variable {gb B : Nat} {L : List RL.R} {O : Nat → Prop} {w w' : World} {v : Value} {hs : List Value}
theorem ColM.len (h : ColM gb B L O w v hs) : hs.length = L.length := by have := h.own.1; omega
theorem ColM.keep (h : ColM gb B L O w v hs) (hk : ∀ b, O b → w'.heap[b]? = w.heap[b]?) (hz : w.heap.size ≤ w'.heap.size) : ColM gb B L O w' v hs where
  row := (hk gb h.og).trans h.row
  own := own_same h.own fun b hb => hk b (h.ov b hb)
  lt := h.lt
  el := fun i hi => by
    obtain ⟨A', C', h1, h2, h3, h4⟩ := h.el i hi
    exact ⟨A', C', h1, h2, h3, h4.same (fun ad e => hk ad.block (h.blk i _ ad.block h1 (by rw [e]; rfl)).1) hz⟩
  blk := h.blk
  sep := h.sep
  og := h.og
  ov := h.ov
  z := Nat.le_trans h.z hz
  fz := fun i u b hu hb o => (frozen_same (hk b (h.blk i u b hu hb).1)).trans (h.fz i u b hu hb o)
/-- The next row has been appended, and the header stored. -/
theorem ColM.put {bo : Obj} {v' : Value} {w6 : World} {x : RL.R} {A : Option Addr} {C : Nat} (h : ColM gb B L O w v hs) (hO : ∀ b, O b → b < w.heap.size) (hx : SlR w.heap.size w A x) (hc : x.length ≤ C) (hm : C ≤ 9223372036854775807) (hA : ∀ ad, A = some ad → ¬ O ad.block ∧ ad.block < w.heap.size) (hfz : ∀ ad, A = some ad → ∀ o, w.frozen? ⟨ad.block, o, none⟩ = false)
    (hown : w6.ownsRow B 34 1 v' (L.length + 1) (hs ++ [.slice A x.length C])) (hg : (w.alloc bo).grownBy w6 v.ownBlock) (hat : v'.ownBlock = v.ownBlock ∨ v'.ownBlock = some (w.alloc bo).heap.size) :
    ∃ O' : Nat → Prop, ColM gb B (L ++ [x]) O' (w6.setCell ⟨gb, 0, none⟩ v') v' (hs ++ [.slice A x.length C]) ∧ (∀ b, O' b → b < (w6.setCell ⟨gb, 0, none⟩ v').heap.size ∧ (O b ∨ (Value.slice A x.length C).ownBlock = some b ∨ w.heap.size ≤ b)) ∧ Chg O w (w6.setCell ⟨gb, 0, none⟩ v') := by
  have hva : ∀ b, v'.ownBlock = some b → v.ownBlock = some b ∨ w.heap.size ≤ b := fun b hb => by
    rcases hat with e | e
    · exact .inl (by rw [← e]; exact hb)
    · rw [e] at hb; injection hb with hb; simp at hb; exact .inr (by omega)
  have hal : Chg O w (w.alloc bo) := Chg.of_ext ((Ext.refl w).alloc bo)
  have hc6 : Chg O w w6 := hal.then (Chg.of_grown (F := fun b => v.ownBlock = some b) hg fun _ e => e) fun b _ hb => h.ov b hb
  have hcF : Chg (fun b => v.ownBlock = some b ∨ b = gb) w (w6.setCell ⟨gb, 0, none⟩ v') := ((Chg.of_ext ((Ext.refl w).alloc bo)).trans (Chg.of_grown hg fun b e => .inl e)).trans (Chg.set _ _ _ _ (.inr rfl))
  have hgbv : v.ownBlock ≠ some gb := fun e => by have := own_base h.own e; have := h.lt; omega
  have hgbv' : v'.ownBlock ≠ some gb := fun e => by have := own_base hown e; have := h.lt; omega
  have hz6 := hc6.size
  have hgz := h.row.lt
  have hsz : (w6.setCell ⟨gb, 0, none⟩ v').heap.size = w6.heap.size := by simp
  have hl := h.len
  have hxb : ∀ b, (Value.slice A x.length C).ownBlock = some b → ∃ ad, A = some ad ∧ ad.block = b := fun b hb => by
    rcases A with _ | ad
    · cases hb
    · simp [Value.ownBlock] at hb; exact ⟨ad, rfl, hb⟩
  refine ⟨fun b => O b ∨ (Value.slice A x.length C).ownBlock = some b ∨ v'.ownBlock = some b, ⟨?_, by rw [List.length_append, List.length_singleton]; exact own_far hown hgbv' _, h.lt, fun i hi => ?_, fun i u b hu hb => ?_, fun i j u u' b hu hu' hne hb => ?_, .inl h.og, fun b hb => .inr (.inr hb), by rw [hsz]; exact Nat.le_trans h.z hz6, fun i u b hu hb o => ?_⟩, fun b hb => ?_, hc6.trans (Chg.set _ _ _ _ h.og)⟩
  · have h1 : Row (w.alloc bo) gb 32 [v] := h.row.alloc bo
    exact (h1.grown hg (fun e => hgbv e.symm)).set 0 v'
  · by_cases hi2 : i < L.length
    · obtain ⟨A', C', h1, h2, h3, h4⟩ := h.el i hi2
      have e : (L ++ [x])[i] = L[i] := List.getElem_append_left hi2
      rw [e]
      refine ⟨A', C', by rw [List.getElem?_append_left (by omega)]; exact h1, h2, h3, h4.same (fun ad ea => ?_) hcF.size⟩
      have hb := h.blk i _ ad.block h1 (by rw [ea]; rfl)
      exact hcF.block _ (hO _ hb.1) (fun hh => hh.elim (fun e2 => hb.2.2 e2) (fun e2 => hb.2.1 e2))
    · have hie : i = L.length := by simp at hi; omega
      subst hie
      have e : (L ++ [x])[L.length] = x := by simp
      rw [e]
      refine ⟨A, C, by rw [List.getElem?_append_right (by omega), hl, Nat.sub_self]; rfl, hc, hm, hx.same (fun ad ea => hcF.block _ (hA ad ea).2 fun hh => ?_) hcF.size⟩
      rcases hh with hh | hh
      · exact (hA ad ea).1 (h.ov _ hh)
      · exact (hA ad ea).1 (by rw [hh]; exact h.og)
  · have hnew : ∀ c, O c ∨ c < w.heap.size → v.ownBlock ≠ some c → v'.ownBlock ≠ some c := fun c hc hv e => by
      rcases hva c e with h1 | h1
      · exact hv h1
      · rcases hc with hc | hc
        · have := hO c hc; omega
        · omega
    by_cases hi2 : i < hs.length
    · rw [List.getElem?_append_left hi2] at hu
      have hb2 := h.blk i u b hu hb
      exact ⟨.inl hb2.1, hb2.2.1, hnew b (.inl hb2.1) hb2.2.2⟩
    · have hie : i = hs.length := by
        have := (List.getElem?_eq_some_iff.1 hu).1
        simp at this
        omega
      subst hie
      rw [List.getElem?_append_right (Nat.le_refl _), Nat.sub_self] at hu
      simp at hu
      subst hu
      obtain ⟨ad, ea, rfl⟩ := hxb b hb
      have ha := hA ad ea
      exact ⟨.inr (.inl hb), fun e => ha.1 (by rw [e]; exact h.og), hnew _ (.inr ha.2) (fun e => ha.1 (h.ov _ e))⟩
  · have hget : ∀ i u, (hs ++ [Value.slice A x.length C])[i]? = some u → (i < hs.length ∧ hs[i]? = some u) ∨ (i = hs.length ∧ u = .slice A x.length C) := fun i u hu => by
      by_cases hi2 : i < hs.length
      · rw [List.getElem?_append_left hi2] at hu; exact .inl ⟨hi2, hu⟩
      · have hie : i = hs.length := by
          have := (List.getElem?_eq_some_iff.1 hu).1
          simp at this
          omega
        subst hie
        rw [List.getElem?_append_right (Nat.le_refl _), Nat.sub_self] at hu
        simp at hu
        exact .inr ⟨rfl, hu.symm⟩
    rcases hget i u hu with ⟨_, h1⟩ | ⟨e1, rfl⟩ <;> rcases hget j u' hu' with ⟨_, h2⟩ | ⟨e2, rfl⟩
    · exact h.sep i j u u' b h1 h2 hne hb
    · intro e
      obtain ⟨ad, ea, rfl⟩ := hxb b e
      exact (hA ad ea).1 (h.blk i u _ h1 hb).1
    · intro e
      obtain ⟨ad, ea, rfl⟩ := hxb b hb
      exact (hA ad ea).1 (h.blk j u' _ h2 e).1
    · omega
  · by_cases hi2 : i < hs.length
    · rw [List.getElem?_append_left hi2] at hu
      have hb2 := h.blk i u b hu hb
      refine (frozen_same (hcF.block _ (hO _ hb2.1) fun hh => ?_)).trans (h.fz i u b hu hb o)
      exact hh.elim (fun e2 => hb2.2.2 e2) (fun e2 => hb2.2.1 e2)
    · have hie : i = hs.length := by
        have := (List.getElem?_eq_some_iff.1 hu).1
        simp at this
        omega
      subst hie
      rw [List.getElem?_append_right (Nat.le_refl _), Nat.sub_self] at hu
      simp at hu
      subst hu
      obtain ⟨ad, ea, rfl⟩ := hxb b hb
      refine (frozen_same (hcF.block _ (hA ad ea).2 fun hh => ?_)).trans (hfz ad ea o)
      rcases hh with hh | hh
      · exact (hA ad ea).1 (h.ov _ hh)
      · exact (hA ad ea).1 (by rw [hh]; exact h.og)
  · rw [hsz]
    rcases hb with hb | hb | hb
    · exact ⟨Nat.lt_of_lt_of_le (hO b hb) hz6, .inl hb⟩
    · obtain ⟨ad, ea, rfl⟩ := hxb b hb
      exact ⟨Nat.lt_of_lt_of_le (hA ad ea).2 hz6, .inr (.inl hb)⟩
    · refine ⟨own_lt hown b hb, ?_⟩
      rcases hva b hb with h1 | h1
      · exact .inl (h.ov b h1)
      · exact .inr (.inr h1)
end

end Go.Proofs.Ytiomelogggilgaa
end

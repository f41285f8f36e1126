/- Parts of the proof, merged: C45, E10, C46, C49, C50, C51, C52. -/
import Derived.Test.YtdadchpiibipoaaGreatDoorQb11
import Derived.Test.YtdadchpiibipoaaGreatDoorQb3

set_option maxRecDepth 100000
namespace Go.Proofs.YtdadchpiibipoaaGreatDoor
section
open Go.RowKit Go.Sort Go.ChangeMaps Go.WideShapes

theorem cmpR_step {x y : RL.R} {k : Nat} (h1 : k < x.length) (h2 : k < y.length) : RL.cmpR (x.drop k) (y.drop k) = if x[k] = y[k] then RL.cmpR (x.drop (k + 1)) (y.drop (k + 1)) else RL.cmpV x[k] y[k] := by
  rw [List.drop_eq_getElem_cons h1, List.drop_eq_getElem_cons h2]
  show (if RL.cmpV x[k] y[k] = 0 then _ else _) = _
  by_cases h : x[k] = y[k]
  · rw [if_pos h, if_pos ((RL.tot_cmpV.z _ _).2 h)]; rfl
  · rw [if_neg h, if_neg (fun e => h ((RL.tot_cmpV.z _ _).1 e))]
theorem cmpR_endB {x y : RL.R} {k : Nat} (hx : k ≤ x.length) (hy : k ≤ y.length) (h : ¬ (k < x.length ∧ k < y.length)) : decide (RL.cmpR (x.drop k) (y.drop k) < 0) = decide (x.length < y.length) := by
  apply decide_eq_decide.2
  by_cases h1 : k < x.length
  · have h2 : k = y.length := by omega
    rw [List.drop_eq_getElem_cons h1, List.drop_of_length_le (by omega : y.length ≤ k)]
    show (1 : Int) < 0 ↔ _
    omega
  · have h3 : k = x.length := by omega
    rw [List.drop_of_length_le (by omega : x.length ≤ k)]
    by_cases h2 : k < y.length
    · rw [List.drop_eq_getElem_cons h2]
      show (-1 : Int) < 0 ↔ _
      omega
    · rw [List.drop_of_length_le (by omega : y.length ≤ k)]
      show (0 : Int) < 0 ↔ _
      omega

set_option maxHeartbeats 2000000 in
theorem r08Less_any (XA YA : Option Addr) (XC YC : Nat) (x y : RL.R) (w : World) (hx : SlR w.heap.size w XA x) (hy : SlR w.heap.size w YA y) (hxl : x.length ≤ 1000000) (_hyl : y.length ≤ 1000000) :
    Calls Tryz.prog 40 #[.slice XA x.length XC, .slice YA y.length YC] w fun e w' => e = .returned (.bool (decide (RL.cmpR x y < 0))) ∧ Ext w w' := by
  have HX := Lib.hid hx
  have HY := Lib.hid hy
  clear hx hy
  go_enter Tryz.func40, Tryz.ntmps40
  go_wp2_with fail
  go_loopw [5] (fun i wr => ∃ k : Nat, k ≤ x.length ∧ k ≤ y.length ∧ i = .int .i64 k ∧ RL.cmpR x y = RL.cmpR (x.drop k) (y.drop k) ∧ Ext w wr) (fun i _ => x.length - (intOf i).toNat)
  case atStart => exact ⟨0, Nat.zero_le _, Nat.zero_le _, rfl, rfl, Ext.refl _⟩
  case round =>
    obtain ⟨k, hka, hkb, rfl, hq, he⟩ := hrel
    have HQ := Lib.hid hq
    have HE := Lib.hid he
    clear hq
    by_cases h12 : k < x.length ∧ k < y.length
    rotate_left
    · have HV := Lib.hid (cmpR_endB hka hkb h12)
      by_cases h1 : k < x.length
      · have g3 : ¬ (k : Int) < (y.length : Int) := by omega
        have g4 : decide ((k : Int) < (y.length : Int)) = false := decide_eq_false g3
        have g5 : (k : Int) < (x.length : Int) := by omega
        have g7 : decide ((x.length : Int) < (y.length : Int)) = decide (x.length < y.length) := decide_eq_decide.2 (by omega)
        clear h12
        go_wp2_with fail
        go_ret
        exact ⟨ret_bool (by rw [HQ.out, HV.out]), HE.out⟩
      · have g3 : ¬ (k : Int) < (x.length : Int) := by omega
        have g4 : decide ((k : Int) < (x.length : Int)) = false := decide_eq_false g3
        have g7 : decide ((x.length : Int) < (y.length : Int)) = decide (x.length < y.length) := decide_eq_decide.2 (by omega)
        clear h12
        go_wp2_with fail
        go_ret
        exact ⟨ret_bool (by rw [HQ.out, HV.out]), HE.out⟩
    obtain ⟨h1, h2⟩ := h12
    obtain ⟨b, o, rfl, hb, c1, c2, c3⟩ := slR_at HX.out h1
    obtain ⟨b', o', rfl, hb', d1, d2, d3⟩ := slR_at HY.out h2
    have HS := Lib.hid (HQ.out.trans (cmpR_step h1 h2))
    generalize x[k] = u at *
    generalize y[k] = v at *
    have c1 := (he.cell hb).trans c1
    have c2 := (he.cell hb).trans c2
    have c3 := (he.cell hb).trans c3
    have d1 := (he.cell hb').trans d1
    have d2 := (he.cell hb').trans d2
    have d3 := (he.cell hb').trans d3
    have g1 : (0 : Int) ≤ (k : Int) := by omega
    have g2 : (k : Int) < (x.length : Int) := by omega
    have g3 : (k : Int) < (y.length : Int) := by omega
    have hw1 : IntKind.i64.wrap ((k : Int) + 1) = ((k + 1 : Nat) : Int) := by rw [IntWalk.i64_in _ (by omega)]; omega
    by_cases huv : u = v
    · have HQ2 : Hid (RL.cmpR x y = RL.cmpR (x.drop (k + 1)) (y.drop (k + 1))) := by show _ = _; rw [HS.out, if_pos huv]
      have hr := run_neV_t huv
      clear huv HS
      go_wp2_with fail
      go_quiet (fail)
      go_wp2_with fail
      go_roundw
      case rel => exact ⟨k + 1, by omega, by omega, by go_num, HQ2.out, HE.out.drewN _⟩
      case measure => simp [intOf]; omega
    · have HD : Hid (RL.cmpR x y = RL.cmpV u v) := by show _ = _; rw [HS.out, if_neg huv]
      have hr := run_neV_f huv
      have HLS := Lib.hid (fun W => r08less_any u v W)
      clear huv HS
      go_upto_region 4 with (fail)
      go_cut [26] from 18 to 26 (fun q wx => q = .bool true ∧ Ext wr wx)
      case first =>
        go_quiet (fail)
        go_wp2_with fail
        go_meet
        case rel => exact ⟨rfl, (Ext.refl _).drewN _⟩
      case rest =>
      obtain ⟨rfl, hx1⟩ := hcut
      generalize wc = w1 at *
      have HE1 := Lib.hid (HE.out.trans hx1)
      obtain ⟨q1, q2⟩ := he.rules
      have hbw : b < wr.heap.size := Nat.lt_of_lt_of_le hb he.size
      have hbw' : b' < wr.heap.size := Nat.lt_of_lt_of_le hb' he.size
      have c1 := (hx1.cell hbw).trans c1
      have c2 := (hx1.cell hbw).trans c2
      have c3 := (hx1.cell hbw).trans c3
      have d1 := (hx1.cell hbw').trans d1
      have d2 := (hx1.cell hbw').trans d2
      have d3 := (hx1.cell hbw').trans d3
      clear hx1 q1 q2
      go_upto_region 5 with (fail)
      go_still_tail 8, (by kernel_rfl)
      go_wp2_with fail
      refine (HLS.out _).mono ?_
      rintro e w2 ⟨rfl, hx2⟩
      have HE2 : Hid (Ext w w2) := by
        show Ext _ _
        exact (HE1.out.drew).trans hx2
      clear hx2
      go_wp2_with fail
      go_ret
      exact ⟨ret_bool (by rw [HD.out]), HE2.out⟩
end
section
open Go.RowKit Go.Sort

section
variable {P : Program} {ops : Array Oper} {Q : Exit → Act → World → Prop} {md : Region.Mode} {S : World → Prop} {zs : List Nat}

def wpAnyS (P : Program) (md : Region.Mode) (ops : Array Oper) (Q : Exit → Act → World → Prop) (S : World → Prop) (zs : List Nat) : Nat → Array Bool → Act → World → Prop
  | 0, listed, a, w => Region.ready md ops listed = [] ∧ Q .normal a w
  | fuel + 1, listed, a, w =>
    (Region.ready md ops listed = [] → Q .normal a w) ∧
    ∀ i ∈ Region.ready md ops listed, wpOp P ops Q i (fun a' w' => (zs.contains i = false → S w → S w') ∧ wpAnyS P md ops Q S zs fuel (listed.setIfInBounds i true) a' w') a w
theorem wpAny_of_S : ∀ (fuel : Nat) (listed : Array Bool) (a : Act) (w : World), wpAnyS P md ops Q S zs fuel listed a w → wpAny P md ops Q fuel listed a w
  | 0, _, _, _, h => h
  | fuel + 1, _, _, _, h => ⟨h.1, fun i hi => wpOp_mono (fun a' w' h' => wpAny_of_S fuel _ a' w' h'.2) (h.2 i hi)⟩
def waitB (md : Region.Mode) (ops : Array Oper) (zs : List Nat) (i : Nat) : Bool := zs.all fun z => (reach md ops z 2).contains i
theorem not_listed {listed : Array Bool} {i : Nat} (hr : i ∈ Region.ready md ops listed) (h : listed.getD i false = true) : False := by
  obtain ⟨hun, oi, hoi, _⟩ := mem_ready.1 hr
  rcases Nat.lt_or_ge i listed.size with h' | h'
  · simp [h'] at hun h
    rw [hun] at h
    cases h
  · simp [Array.getElem?_eq_none h'] at h

theorem wpAnyS_first {i : Nat} {oi : Oper} {v : Value} (hz : waitB md ops zs i = true) (hiz : zs.contains i = false) (hi : ops[i]? = some oi) (hsel : ∀ (j : Nat) (o : Oper) cs b, ops[j]? = some o → o.op ≠ .select cs b)
    (hQ : ∀ c a w, Q (.panic c) (a.put oi.dst v) w → Q (.panic c) a w) :
    ∀ (fuel : Nat) (listed : Array Bool) (a : Act) (w : World), Cl md ops listed →
      (∀ j oj, ops[j]? = some oj → j ≠ i → listed.getD j true = false → (∀ e ∈ oj.after, Region.binds md e = true → e.on ≠ i) → oi.apart ops oj = true) →
      i ∈ Region.ready md ops listed → YieldsIf P ops S oi v a → S w →
      wpAnyS P md ops Q S zs fuel (listed.setIfInBounds i true) (a.put oi.dst v) w → wpAnyS P md ops Q S zs (fuel + 1) listed a w
  | 0, listed, a, w, _, _, hr, hy, hS, H => by
    refine ⟨fun h => (by rw [h] at hr; cases hr), fun j hj => ?_⟩
    by_cases hji : j = i
    · subst hji; exact hy.wpOp hi hS ⟨fun _ _ => hS, H⟩
    · have := ready_mono hj hji
      rw [H.1] at this
      cases this
  | fuel + 1, listed, a, w, hc, hfree, hr, hy, hS, H => by
    refine ⟨fun h => (by rw [h] at hr; cases hr), fun j hj => ?_⟩
    by_cases hji : j = i
    · subst hji; exact hy.wpOp hi hS ⟨fun _ _ => hS, H⟩
    · have hjz : zs.contains j = false := by
        cases h : zs.contains j with
        | false => rfl
        | true =>
          have h1 := List.all_eq_true.1 hz j (by simpa using h)
          exact (not_listed hr (reach_listed hc hj 2 i (by simpa using h1))).elim
      have h1 := H.2 j (ready_mono hj hji)
      obtain ⟨hjun, oj, hoj, hall⟩ := mem_ready.1 hj
      have hnot : ∀ e ∈ oj.after, Region.binds md e = true → e.on ≠ i := fun e he hb heq => by
        have h2 := hall e he hb
        rw [heq] at h2
        exact not_listed hr h2
      have h2 := wpOp_putIf hoj (hfree j oj hoj hji hjun hnot) (fun cs b => hsel i oi cs b hi) (fun cs b => hsel j oj cs b hoj) hQ hy h1
      refine wpOp_mono (fun a' w' h3 => ⟨h3.2.1, wpAnyS_first hz hiz hi hsel hQ fuel (listed.setIfInBounds j true) a' w' (hc.step hj) (fun k ok hk hki hun hno => ?_) (ready_mono hr (Ne.symm hji)) h3.1 (h3.2.1 hjz hS) ?_⟩) h2
      · refine hfree k ok hk hki ?_ hno
        by_cases hjk : j = k
        · subst hjk; exact hjun
        · rw [getD_set_ne true hjk] at hun; exact hun
      · rw [Array.setIfInBounds_comm _ _ hji]
        exact h3.2.2
theorem wpAnyS_free {i : Nat} {oi : Oper} {v : Value} (hi : ops[i]? = some oi) (hsel : ∀ (j : Nat) (o : Oper) cs b, ops[j]? = some o → o.op ≠ .select cs b)
    (hQ : ∀ c a w, Q (.panic c) (a.put oi.dst v) w → Q (.panic c) a w) :
    ∀ (fuel : Nat) (listed : Array Bool) (a : Act) (w : World),
      (∀ j oj, ops[j]? = some oj → j ≠ i → listed.getD j true = false → (∀ e ∈ oj.after, Region.binds md e = true → e.on ≠ i) → oi.apart ops oj = true) →
      i ∈ Region.ready md ops listed → YieldsIf P ops (fun _ => True) oi v a →
      wpAnyS P md ops Q S zs fuel (listed.setIfInBounds i true) (a.put oi.dst v) w → wpAnyS P md ops Q S zs (fuel + 1) listed a w
  | 0, listed, a, w, _, hr, hy, H => by
    refine ⟨fun h => (by rw [h] at hr; cases hr), fun j hj => ?_⟩
    by_cases hji : j = i
    · subst hji; exact hy.wpOp hi trivial ⟨fun _ h => h, H⟩
    · have := ready_mono hj hji
      rw [H.1] at this
      cases this
  | fuel + 1, listed, a, w, hfree, hr, hy, H => by
    refine ⟨fun h => (by rw [h] at hr; cases hr), fun j hj => ?_⟩
    by_cases hji : j = i
    · subst hji; exact hy.wpOp hi trivial ⟨fun _ h => h, H⟩
    · have h1 := H.2 j (ready_mono hj hji)
      obtain ⟨hjun, oj, hoj, hall⟩ := mem_ready.1 hj
      have hnot : ∀ e ∈ oj.after, Region.binds md e = true → e.on ≠ i := fun e he hb heq => by
        have h2 := hall e he hb
        rw [heq] at h2
        exact not_listed hr h2
      have h2 := wpOp_putIf hoj (hfree j oj hoj hji hjun hnot) (fun cs b => hsel i oi cs b hi) (fun cs b => hsel j oj cs b hoj) hQ hy h1
      refine wpOp_mono (fun a' w' h3 => ⟨h3.2.1, wpAnyS_free hi hsel hQ fuel (listed.setIfInBounds j true) a' w' (fun k ok hk hki hun hno => ?_) (ready_mono hr (Ne.symm hji)) h3.1 ?_⟩) h2
      · refine hfree k ok hk hki ?_ hno
        by_cases hjk : j = k
        · subst hjk; exact hjun
        · rw [getD_set_ne true hjk] at hun; exact hun
      · rw [Array.setIfInBounds_comm _ _ hji]
        exact h3.2.2

theorem takeS {i : Nat} {oi : Oper} {v : Value} {fuel : Nat} {listed : Array Bool} {a : Act} {w : World} (d : Option Tmp) (hi : ops[i]? = some oi) (hd : oi.dst = d)
    (hz : waitB md ops zs i = true) (hiz : zs.contains i = false) (hcl : clB md ops listed = true) (hs : Region.noSelect ops = true) (hf : Region.free md ops listed i = true) (hr : (Region.ready md ops listed).contains i = true)
    (hQ : ∀ c a w, Q (.panic c) (a.put d v) w → Q (.panic c) a w) (hy : YieldsIf P ops S oi v a) (hS : S w)
    (h : wpAnyS P md ops Q S zs fuel (listed.setIfInBounds i true) (a.put d v) w) : wpAnyS P md ops Q S zs (fuel + 1) listed a w := by
  subst hd
  exact wpAnyS_first hz hiz hi (Region.noSelect_spec hs) hQ fuel listed a w (Cl.of hcl) (Region.free_spec hi hf) (by simpa using hr) hy hS h
theorem takeFree {i : Nat} {oi : Oper} {v : Value} {fuel : Nat} {listed : Array Bool} {a : Act} {w : World} (d : Option Tmp) (hi : ops[i]? = some oi) (hd : oi.dst = d)
    (hs : Region.noSelect ops = true) (hf : Region.free md ops listed i = true) (hr : (Region.ready md ops listed).contains i = true)
    (hQ : ∀ c a w, Q (.panic c) (a.put d v) w → Q (.panic c) a w) (hy : YieldsIf P ops (fun _ => True) oi v a)
    (h : wpAnyS P md ops Q S zs fuel (listed.setIfInBounds i true) (a.put d v) w) : wpAnyS P md ops Q S zs (fuel + 1) listed a w := by
  subst hd
  exact wpAnyS_free hi (Region.noSelect_spec hs) hQ fuel listed a w (Region.free_spec hi hf) (by simpa using hr) hy h
theorem oneS {i : Nat} {o : Oper} {fuel : Nat} {listed : Array Bool} {a : Act} {w : World} (hr : Region.ready md ops listed = [i]) (ho : ops[i]? = some o)
    (h : ∀ K' : Act → World → Prop, Shut (∀ a w, S w → (S w → wpAnyS P md ops Q S zs fuel (listed.setIfInBounds i true) a w) → K' a w) → if Region.wanted o (yielded ops a.tmps) = true then Oper.wp P o a w K' Q else K' (a.put o.dst undef) w) :
    wpAnyS P md ops Q S zs (fuel + 1) listed a w := by
  refine ⟨(fun h0 => by rw [hr] at h0; cases h0), fun j hj => ?_⟩
  rw [hr] at hj
  obtain rfl : j = i := by simpa using hj
  exact wpOp_step ho (fun K' hK => h K' (fun a w hS hW => hK a w ⟨fun _ _ => hS, hW hS⟩))
theorem oneL {i : Nat} {o : Oper} {fuel : Nat} {listed : Array Bool} {a : Act} {w : World} (hr : Region.ready md ops listed = [i]) (ho : ops[i]? = some o) (hiz : zs.contains i = true)
    (h : ∀ K' : Act → World → Prop, Shut (∀ a w, wpAnyS P md ops Q S zs fuel (listed.setIfInBounds i true) a w → K' a w) → if Region.wanted o (yielded ops a.tmps) = true then Oper.wp P o a w K' Q else K' (a.put o.dst undef) w) :
    wpAnyS P md ops Q S zs (fuel + 1) listed a w := by
  refine ⟨(fun h0 => by rw [hr] at h0; cases h0), fun j hj => ?_⟩
  rw [hr] at hj
  obtain rfl : j = i := by simpa using hj
  exact wpOp_step ho (fun K' hK => h K' (fun a w hW => hK a w ⟨(fun h0 => by rw [hiz] at h0; cases h0), hW⟩))
theorem doneS {listed : Array Bool} {a : Act} {w : World} (hr : Region.ready md ops listed = []) (h : Q .normal a w) : ∀ fuel, wpAnyS P md ops Q S zs fuel listed a w
  | 0 => ⟨hr, h⟩
  | _ + 1 => ⟨fun _ => h, by rw [hr]; simp⟩
theorem regionS {id : Nat} {a : Act} {w : World} (zs : List Nat) (hm : P.follows .mixedOrders = true) (hS : S w.drew)
    (h : S w.drew → wpAnyS P .any ops Q S zs ops.size (Array.replicate ops.size false) a w.drew) : (Code.region id ops true).wp P Q a w :=
  wp_region_any hm (wpAny_of_S _ _ _ _ (h hS))
end
end
section
open Go.RowKit Go.Sort Go.ChangeMaps Go.WideShapes

theorem FctCs.back {B : Nat} {w V : World} {Fs : List Fact} {cs : List Value} (h : FctCs B V Fs cs) (hb : Below B w V) : FctCs B w Fs cs :=
  ⟨h.len, h.one, fun i hi => by
    obtain ⟨RA, RC, a, b, c⟩ := h.at_ i hi
    exact ⟨RA, RC, a, b, Sl.keep c fun p hp => (hb.cell hp).symm⟩⟩
end
section
open Go.RowKit Go.Sort Go.ChangeMaps Go.WideShapes

theorem kindsF_mem {S : Sch} {nm : ByteArray} (h : nm ∈ S.map Prod.fst) : (nm, kindsF S nm) ∈ S := by
  unfold kindsF
  split
  · rename_i hf
    obtain ⟨p, hp, e⟩ := List.mem_map.1 h
    have := List.find?_eq_none.1 hf p hp
    simp [e] at this
  · rename_i p hf
    have hp := List.mem_of_find?_eq_some hf
    have he : p.1 = nm := by have := List.find?_some hf; simpa using this
    rw [← he]
    exact hp
def schsF (S : Sch) (ns : List ByteArray) : Sch := ns.map fun nm => (nm, kindsF S nm)
theorem schsF_len (S : Sch) (ns : List ByteArray) : (schsF S ns).length = ns.length := List.length_map ..

def SchBlk (P : Nat → Prop) (R n : Nat) (w : World) (X : Sch) : Prop :=
  ∃ cs, Row w R 62 cs ∧ cs.length = n * 2 ∧ X.length ≤ n ∧ ∀ i (h : i < X.length), ∃ KA KC, cs[i * 2]? = some (.string X[i].1) ∧ cs[i * 2 + 1]? = some (.slice KA X[i].2.length KC) ∧ SlIP P w KA X[i].2
section
variable {P : Nat → Prop} {R n : Nat} {w w' : World} {X : Sch}
theorem SchBlk.keep (h : SchBlk P R n w X) (hb : Below w.heap.size w w') : SchBlk P R n w' X := by
  obtain ⟨cs, h1, h2, h3, h4⟩ := h
  exact ⟨cs, h1.up hb, h2, h3, fun i hi => by obtain ⟨KA, KC, a, b, c⟩ := h4 i hi; exact ⟨KA, KC, a, b, c.keep (Stay.of hb)⟩⟩
theorem SchBlk.lt (h : SchBlk P R n w X) : R < w.heap.size := by obtain ⟨cs, h1, -⟩ := h; exact h1.lt
theorem SchBlk.frozen (h : SchBlk P R n w X) (i : Nat) : w.frozen? ⟨R, i, none⟩ = false := by obtain ⟨cs, h1, -⟩ := h; exact h1.frozen i
theorem SchBlk.cell (h : SchBlk P R n w X) {i : Nat} (hi : i < n * 2) : ∃ u, w.cell? ⟨R, i, none⟩ = some u := by
  obtain ⟨cs, h1, h2, -⟩ := h
  exact ⟨_, h1.cell_ (by omega)⟩
theorem SchBlk.new (w : World) (n : Nat) (cs : List Value) (hl : cs.length = n * 2) : SchBlk P w.heap.size n (w.alloc (.cells cs.toArray 62)) [] :=
  ⟨cs, Row.new w 62 cs, hl, Nat.zero_le _, fun _i hi => absurd hi (Nat.not_lt_zero _)⟩
theorem SchBlk.snoc (h : SchBlk P R n w X) {k : Nat} (hX : X.length = k) (hk : k < n) (hP : ¬ P R) {nm : ByteArray} {KA : Option Addr} {KC : Nat} {ks : List Int} (hks : SlIP P w KA ks) :
    SchBlk P R n ((w.setCell ⟨R, k * 2, none⟩ (.string nm)).setCell ⟨R, k * 2 + 1, none⟩ (.slice KA ks.length KC)) (X ++ [(nm, ks)]) := by
  subst hX
  obtain ⟨cs, h1, h2, h3, h4⟩ := h
  have hst : Stay P w ((w.setCell ⟨R, X.length * 2, none⟩ (.string nm)).setCell ⟨R, X.length * 2 + 1, none⟩ (.slice KA ks.length KC)) := (Stay.set hP _ _).trans (Stay.set hP _ _)
  refine ⟨_, (h1.set (X.length * 2) (.string nm)).set (X.length * 2 + 1) (.slice KA ks.length KC), by simp [h2], by simp; omega, fun i hi => ?_⟩
  by_cases hlt : i < X.length
  · obtain ⟨A, C, a, b, c⟩ := h4 i hlt
    refine ⟨A, C, ?_, ?_, ?_⟩
    · rw [List.getElem?_set_ne (by omega), List.getElem?_set_ne (by omega), List.getElem_append_left hlt]; exact a
    · rw [List.getElem?_set_ne (by omega), List.getElem?_set_ne (by omega), List.getElem_append_left hlt]; exact b
    · rw [List.getElem_append_left hlt]; exact c.keep hst
  · have e : i = X.length := by simp at hi; omega
    subst e
    refine ⟨KA, KC, ?_, ?_, ?_⟩
    · rw [List.getElem?_set_ne (by omega), List.getElem?_set_self (by omega)]; simp
    · rw [List.getElem?_set_self (by simp; omega)]; simp
    · simpa using hks.keep hst
theorem SchBlk.schsM (h : SchBlk P R n w X) : SchsM w.heap.size w (some ⟨R, 0, none⟩) X := fun _ => by
  obtain ⟨cs, h1, h2, h3, h4⟩ := h
  refine ⟨R, 0, rfl, h1.lt, fun i hi => ?_⟩
  obtain ⟨KA, KC, a, b, c⟩ := h4 i hi
  refine ⟨KA, KC, by rw [Nat.zero_add, h1.cell]; exact a, by rw [Nat.zero_add, h1.cell]; exact b, fun hne => ?_⟩
  obtain ⟨b', o, e, q1, -, q2⟩ := c (fun h0 => hne (by rw [h0]; rfl))
  exact ⟨b', o, e, q1, q2⟩
end
theorem makeSchs (n : Nat) (hn : n ≤ 1000000) : ∃ cs : List Value, cs.length = n * 2 ∧ ∀ w : World, (Instr.makeSlice 22 (.int .i64 (n : Int)) (.int .i64 (n : Int))).run Tryz.prog w = .ok (.slice (some ⟨w.heap.size, 0, none⟩) n n) (w.alloc (.cells cs.toArray 62)) := by
  obtain ⟨i0, hi0, hz0, hz1, hz2⟩ := info_parts schInfo
  refine ⟨(madeCells (Value.agg #[.string ⟨#[]⟩, .slice none 0 0]).cells (n * 2)).toList, by simp [madeCells], fun w => ?_⟩
  have := run_make (P := Tryz.prog) w 22 62 i0 _ Tryz.underlying22 hi0 hz0 .i64 .i64 n n (by omega) (by omega) (by rw [hz2]; omega) (by omega)
  rw [this, hz1]
  simp

set_option maxHeartbeats 8000000 in
theorem ctSchemas_any {P : Nat → Prop} {S : Sch} {m : Value} {F : Cont} (w : World) (hd : DbM P S w m F) (hnd : (S.map Prod.fst).Nodup) (hSl : S.length ≤ 1000) (hSn : ∀ p ∈ S, p.1.size ≤ 281474976710656) :
    Calls Tryz.prog 31 #[.agg #[m]] w fun e w' => ∃ A C, ∃ ns : List ByteArray, e = .returned (.slice A ns.length C) ∧ NamesOf S ns ∧ SchsM w'.heap.size w' A (schsF S ns) ∧ Below w.heap.size w w' := by
  obtain ⟨b0, rfl⟩ := hd.form
  obtain ⟨W0, hW0⟩ : ∃ W, W = w.alloc (.cells #[.map (some b0)] 28) := ⟨_, rfl⟩
  have hx0 : Ext w W0 := by rw [hW0]; exact (Ext.refl w).alloc _
  have HR0 : Hid (Row W0 w.heap.size 28 [.map (some b0)]) := by show Row _ _ _ _; rw [hW0]; exact Row.new w _ _
  have HB0 := Lib.hid hx0.below
  have HD0 := Lib.hid (hd.up hx0.below)
  have HN := Lib.hid (ctNames2_any HD0.out hnd hSl)
  have HND : Hid (S.map Prod.fst).Nodup := hnd
  have HSL : Hid (S.length ≤ 1000) := hSl
  have HSN := Lib.hid hSn
  obtain ⟨g, hg⟩ : ∃ g, g = w.heap.size := ⟨_, rfl⟩
  rw [← hg] at HR0
  have c0 : W0.cell? ⟨g, 0, none⟩ = some (.map (some b0)) := HR0.out.cell 0
  have z0 := HR0.out.lt
  clear hd hnd hx0 hSl hSn
  go_enter Tryz.func31, Tryz.ntmps31
  go_upto_region 1 with (fail)
  rw [← hW0, ← hg]
  clear hW0 hg
  go_wp2_with fail
  refine HN.out.mono ?_
  rintro e w1 ⟨A, C, ns, rfl, hns, hsl, -, hb1⟩
  have HNS := Lib.hid hns
  have hnl : ns.length = S.length := by rw [hns.1.length_eq, List.length_map]
  obtain ⟨cs, hcl, hmk⟩ := makeSchs ns.length (by have := HSL.out; omega)
  obtain ⟨nl, hnl2⟩ : ∃ n, n = ns.length := ⟨_, rfl⟩
  rw [← hnl2] at hmk hcl ⊢
  have HNL : Hid (nl = ns.length) := hnl2
  have HNB : Hid (nl ≤ 1000) := by show _ ≤ _; have := HSL.out; omega
  have HC := Lib.hid hcl
  have HR1 := Lib.hid (HR0.out.up hb1)
  have HD1 := Lib.hid (HD0.out.up hb1)
  have HSLN := Lib.hid hsl
  have HB1 := Lib.hid (HB0.out.trans (hb1.mono HB0.out.size))
  have c0 : w1.cell? ⟨g, 0, none⟩ = some (.map (some b0)) := HR1.out.cell 0
  have z0 := HR1.out.lt
  clear hns hsl hb1 hnl hnl2 hcl HN HR0 HD0
  go_upto_region 2 with (fail)
  obtain ⟨R, hR⟩ : ∃ R, R = w1.heap.size := ⟨_, rfl⟩
  obtain ⟨W2, hW2⟩ : ∃ W, W = w1.alloc (.cells cs.toArray 62) := ⟨_, rfl⟩
  have hb2 : Below w1.heap.size w1 W2 := by rw [hW2]; exact ((Ext.refl w1).alloc _).below
  have HBK : Hid (SchBlk (fun c => R < c) R nl W2 []) := by show SchBlk _ _ _ _ _; rw [hW2, hR]; exact SchBlk.new w1 nl cs HC.out
  have HR2 := Lib.hid (HR1.out.up hb2)
  have HD2 : Hid (DbM (fun b => b < R) S W2 (.map (some b0)) F) := (HD1.out.weak (P' := fun b => b < R) fun b hb _ => by show b < R; rw [hR]; exact hb).up hb2
  have HSL2 : Hid (Sl R W2 A (ns.map Value.string)) := by show Sl _ _ _ _; rw [hR]; exact Sl.below HSLN.out hb2 (Nat.le_refl _)
  have HB2 := Lib.hid (HB1.out.trans (hb2.mono HB1.out.size))
  have HRW : Hid (w.heap.size ≤ R ∧ g < R) := ⟨by rw [hR]; exact HB1.out.size, by rw [hR]; exact z0⟩
  have HW2 := Lib.hid hW2
  have HRR := Lib.hid hR
  clear hW2 hR hb2 HR1 HD1 HSLN c0 z0
  go_upto_region 3 with (fail)
  rw [← HW2.out, ← HRR.out]
  clear HW2 HRR hmk
  go_wp2_with fail
  go_loopw [13] (fun c wx => ∃ i : Nat, i ≤ nl ∧ c = .int .i64 i ∧ SchBlk (fun c => R < c) R nl wx (schsF S (ns.take i)) ∧ Below R W2 wx) (fun c _ => nl - (intOf c).toNat)
  case atStart => exact ⟨0, Nat.zero_le _, rfl, HBK.out, Below.refl _ _⟩
  case round =>
    obtain ⟨i, hi, rfl, hbk, hbr⟩ := hrel
    have HBK := Lib.hid hbk
    have HBR := Lib.hid hbr
    have HR := Lib.hid (HR2.out.below hbr HRW.out.2)
    have HD : Hid (DbM (fun b => b < R) S wr (.map (some b0)) F) := HD2.out.keep ⟨hbr.size, fun b _ hp => hbr.block b hp⟩
    have HSLR := Lib.hid (Sl.below HSL2.out hbr (Nat.le_refl _))
    clear hbk hbr HR2
    by_cases hlt : i < nl
    · have hin : i < ns.length := by have := HNL.out; omega
      obtain ⟨nb, no, rfl, hnb, hnc⟩ := HSLR.out.at_ (k := i) (by rw [List.length_map]; exact hin)
      rw [List.getElem_map] at hnc
      have HMEM : Hid (ns[i] ∈ S.map Prod.fst) := HNS.out.1.mem_iff.1 (List.getElem_mem hin)
      have HTK : Hid (schsF S (ns.take (i + 1)) = schsF S (ns.take i) ++ [(ns[i], kindsF S ns[i])]) := by
        show _ = _
        unfold schsF
        rw [List.take_succ_eq_append_getElem hin, List.map_append]
        rfl
      generalize ns[i] = nm at hnc HMEM HTK
      obtain ⟨ks, hks⟩ : ∃ ks, ks = kindsF S nm := ⟨_, rfl⟩
      have HRB : Hid (R < wr.heap.size) := HBK.out.lt
      have HSC : Hid (∀ V, Below wr.heap.size wr V → Calls Tryz.prog 25 #[.agg #[.map (some b0)], .string nm] V fun e V' => ∃ KA KC, e = .returned (.tuple #[.agg #[.string nm, .slice KA ks.length KC], .bool true]) ∧ SlIP (fun c => R < c) V' KA ks ∧ Below V.heap.size V V') := fun V hb => by
        have hsz : nm.size ≤ 281474976710656 := by
          obtain ⟨p, hp, e⟩ := List.mem_map.1 HMEM.out
          rw [← e]; exact HSN.out p hp
        refine (ctSchema_any nm hsz V (HD.out.up hb) HND.out).mono ?_
        rintro e V' ⟨h1, -, h3⟩
        obtain ⟨KA, KC, he, hk⟩ := h1 ks (by rw [hks]; exact kindsF_mem HMEM.out)
        exact ⟨KA, KC, he, hk.weak fun c _ hc => by
          have h1 : V.heap.size ≤ c := hc
          have := hb.size
          have := HRB.out
          show R < c
          omega, h3⟩
      rw [← hks] at HTK
      clear hks
      have c0 : wr.cell? ⟨g, 0, none⟩ = some (.map (some b0)) := HR.out.cell 0
      have r1 : (i : Int) < (nl : Int) := by omega
      have r0 : (0 : Int) ≤ (i : Int) := by omega
      have hw1 : IntKind.i64.wrap ((i : Int) + 1) = ((i + 1 : Nat) : Int) := by rw [IntWalk.i64_in _ (by have := HNB.out; omega)]; omega
      have z0 := HR.out.lt
      have z1 : nb < wr.heap.size := by have := HRB.out; omega
      go_upto_region 6 with (fail)
      refine regionS (S := (fun w' => w'.cell? ⟨g, 0, none⟩ = some (.map (some b0)) ∧ w'.cell? ⟨nb, no + i, none⟩ = some (.string nm))) [12] (by kernel_rfl) ⟨c0, hnc⟩ (fun hHeld => ?_)
      refine takeS (i := 0) (v := ?_) (some 17) rfl rfl (by kernel_rfl) (by decide) (by kernel_rfl) (by kernel_rfl) (by kernel_rfl) (by kernel_rfl) (fun _ _ _ h => h) (Or.inl ⟨by rfl, ?_⟩) (by assumption) ?_
      rotate_left 1
      · (intro w0 hSw; (try dsimp only at hSw); go_simp; try (with_reducible rfl))
      try simp only [Act.put, List.setIfInBounds_toArray, List.set_cons_succ, List.set_cons_zero]
      refine takeS (i := 1) (v := ?_) (some 18) rfl rfl (by kernel_rfl) (by decide) (by kernel_rfl) (by kernel_rfl) (by kernel_rfl) (by kernel_rfl) (fun _ _ _ h => h) (Or.inl ⟨by rfl, ?_⟩) (by assumption) ?_
      rotate_left 1
      · (intro w0 hSw; (try dsimp only at hSw); go_simp; try (with_reducible rfl))
      try simp only [Act.put, List.setIfInBounds_toArray, List.set_cons_succ, List.set_cons_zero]
      refine takeS (i := 2) (v := ?_) (some 19) rfl rfl (by kernel_rfl) (by decide) (by kernel_rfl) (by kernel_rfl) (by kernel_rfl) (by kernel_rfl) (fun _ _ _ h => h) (Or.inl ⟨by rfl, ?_⟩) (by assumption) ?_
      rotate_left 1
      · (intro w0 hSw; (try dsimp only at hSw); go_simp; try (with_reducible rfl))
      try simp only [Act.put, List.setIfInBounds_toArray, List.set_cons_succ, List.set_cons_zero]
      refine takeS (i := 3) (v := ?_) (some 20) rfl rfl (by kernel_rfl) (by decide) (by kernel_rfl) (by kernel_rfl) (by kernel_rfl) (by kernel_rfl) (fun _ _ _ h => h) (Or.inl ⟨by rfl, ?_⟩) (by assumption) ?_
      rotate_left 1
      · (intro w0 hSw; (try dsimp only at hSw); go_simp; try (with_reducible rfl))
      try simp only [Act.put, List.setIfInBounds_toArray, List.set_cons_succ, List.set_cons_zero]
      refine takeS (i := 4) (v := ?_) (some 21) rfl rfl (by kernel_rfl) (by decide) (by kernel_rfl) (by kernel_rfl) (by kernel_rfl) (by kernel_rfl) (fun _ _ _ h => h) (Or.inl ⟨by rfl, ?_⟩) (by assumption) ?_
      rotate_left 1
      · (intro w0 hSw; (try dsimp only at hSw); go_simp; try (with_reducible rfl))
      try simp only [Act.put, List.setIfInBounds_toArray, List.set_cons_succ, List.set_cons_zero]
      refine takeS (i := 5) (v := ?_) (some 22) rfl rfl (by kernel_rfl) (by decide) (by kernel_rfl) (by kernel_rfl) (by kernel_rfl) (by kernel_rfl) (fun _ _ _ h => h) (Or.inl ⟨by rfl, ?_⟩) (by assumption) ?_
      rotate_left 1
      · (intro w0 hSw; (try dsimp only at hSw); go_simp; try (with_reducible rfl))
      try simp only [Act.put, List.setIfInBounds_toArray, List.set_cons_succ, List.set_cons_zero]
      refine takeS (i := 6) (v := ?_) (some 23) rfl rfl (by kernel_rfl) (by decide) (by kernel_rfl) (by kernel_rfl) (by kernel_rfl) (by kernel_rfl) (fun _ _ _ h => h) (Or.inl ⟨by rfl, ?_⟩) (by assumption) ?_
      rotate_left 1
      · (intro w0 hSw; (try dsimp only at hSw); go_simp; try (with_reducible rfl))
      try simp only [Act.put, List.setIfInBounds_toArray, List.set_cons_succ, List.set_cons_zero]
      refine oneS (i := 7) (by kernel_rfl) rfl (fun K hK => ?_)
      go_simp
      refine (HSC.out wr.drew (Below.refl _ _).drew).mono ?_
      rintro e V ⟨KA, KC, rfl, hka, hbV⟩
      have hbV : Below wr.heap.size wr V := Below.undrew hbV
      have HBV := Lib.hid hbV
      have HKA := Lib.hid hka
      have HBKV := Lib.hid (HBK.out.keep hbV)
      have HKK : Hid (V.cell? ⟨g, 0, none⟩ = some (.map (some b0)) ∧ V.cell? ⟨nb, no + i, none⟩ = some (.string nm)) := ⟨cell_below hbV c0, cell_below hbV hnc⟩
      have m0 := HBKV.out.frozen (i * 2)
      have m1 := HBKV.out.frozen (i * 2 + 1)
      have m2 := HBKV.out.lt
      obtain ⟨u0, m3⟩ := HBKV.out.cell (i := i * 2) (by omega)
      obtain ⟨u1, m4⟩ := HBKV.out.cell (i := i * 2 + 1) (by omega)
      clear hbV hka
      go_wp2_with fail
      refine hK.out _ _ HKK.out (fun hHeld => ?_)
      clear hK K
      try simp only [Act.put, List.setIfInBounds_toArray, List.set_cons_succ, List.set_cons_zero]
      refine takeS (i := 8) (v := ?_) (some 16) rfl rfl (by kernel_rfl) (by decide) (by kernel_rfl) (by kernel_rfl) (by kernel_rfl) (by kernel_rfl) (fun _ _ _ h => h) (Or.inl ⟨by rfl, ?_⟩) (by assumption) ?_
      rotate_left 1
      · (intro w0 hSw; (try dsimp only at hSw); go_simp; try (with_reducible rfl))
      try simp only [Act.put, List.setIfInBounds_toArray, List.set_cons_succ, List.set_cons_zero]
      refine takeS (i := 9) (v := ?_) (some 25) rfl rfl (by kernel_rfl) (by decide) (by kernel_rfl) (by kernel_rfl) (by kernel_rfl) (by kernel_rfl) (fun _ _ _ h => h) (Or.inl ⟨by rfl, ?_⟩) (by assumption) ?_
      rotate_left 1
      · (intro w0 hSw; (try dsimp only at hSw); go_simp; try (with_reducible rfl))
      try simp only [Act.put, List.setIfInBounds_toArray, List.set_cons_succ, List.set_cons_zero]
      refine takeFree (i := 10) (v := ?_) (some 26) rfl rfl (by kernel_rfl) (by kernel_rfl) (by kernel_rfl) (fun _ _ _ h => h) (Or.inl ⟨by rfl, ?_⟩) ?_
      rotate_left 1
      · (intro w0 hSw; (try dsimp only at hSw); go_simp; try (with_reducible rfl))
      try simp only [Act.put, List.setIfInBounds_toArray, List.set_cons_succ, List.set_cons_zero]
      refine takeS (i := 11) (v := ?_) (some 27) rfl rfl (by kernel_rfl) (by decide) (by kernel_rfl) (by kernel_rfl) (by kernel_rfl) (by kernel_rfl) (fun _ _ _ h => h) (Or.inl ⟨by rfl, ?_⟩) (by assumption) ?_
      rotate_left 1
      · (intro w0 hSw; (try dsimp only at hSw); go_simp; try (with_reducible rfl))
      try simp only [Act.put, List.setIfInBounds_toArray, List.set_cons_succ, List.set_cons_zero]
      refine oneL (i := 12) (by kernel_rfl) rfl (by decide) (fun K hK => ?_)
      go_simp
      go_wp2_with fail
      refine hK.out _ _ ?_
      clear hK K
      try simp only [Act.put, List.setIfInBounds_toArray, List.set_cons_succ, List.set_cons_zero]
      refine doneS (by kernel_rfl) ?_ _
      go_wp2_with fail
      have HN2 : Hid (SchBlk (fun c => R < c) R nl ((V.setCell ⟨R, i * 2, none⟩ (.string nm)).setCell ⟨R, i * 2 + 1, none⟩ (.slice KA ks.length KC)) (schsF S (ns.take (i + 1)))) := by
        show SchBlk _ _ _ _ _
        rw [HTK.out]
        exact HBKV.out.snoc (by rw [schsF_len, List.length_take]; omega) hlt (Nat.lt_irrefl _) HKA.out
      go_roundw
      case rel => exact ⟨i + 1, by omega, by go_num, HN2.out, ((HBR.out.trans (HBV.out.mono (Nat.le_of_lt HRB.out))).setCell (p := ⟨R, i * 2, none⟩) (Nat.le_refl _) _).setCell (p := ⟨R, i * 2 + 1, none⟩) (Nat.le_refl _) _⟩
      case measure => simp [intOf]; omega
    · obtain rfl : i = nl := by omega
      rw [HNL.out, List.take_length] at HBK
      have r1 : ¬ (i : Int) < (i : Int) := by omega
      go_wp2_with fail
      go_ret
      exact ⟨some ⟨R, 0, none⟩, i, ns, by rw [← HNL.out]; first | done | rfl, HNS.out, HBK.out.schsM, HB2.out.trans (HBR.out.mono HRW.out.1)⟩
end
section
open Go.RowKit Go.Sort Go.ChangeMaps Go.WideShapes

theorem strInfo8 : (Tryz.prog.info? 9).map (fun i => (i.zero, i.size, i.bytes)) = some (some (.string ⟨#[]⟩), 1, 16) := by kernel_rfl
theorem runXStrN {w : World} (ty : TypeId) (base : Nat) (v : Value) (n : Nat) (xs : List Value) (hown : w.ownsRow base 9 1 v n xs)
    (A : Option Addr) (m C : Nat) (news : List Value) (hl : news.length = m * 1) (hz : Sl w.heap.size w A news) (h1 : ∀ u ∈ news, u.oneCell' = true) (hn : n + m ≤ 1000000) (hbase : base ≤ w.heap.size) :
    ∃ v' w', (Builtin.append_ #[34, 34] ty #[v, .slice A m C]).run Tryz.prog w = .ok v' w' ∧ w'.ownsRow base 9 1 v' (n + m) (xs ++ news) ∧ w.grownBy w' v.ownBlock ∧ (∀ b, v'.ownBlock = some b → v.ownBlock = some b ∨ b = w.heap.size) := by
  obtain ⟨i0, hi0, hz0, hz1, hz2⟩ := info_parts strInfo8
  rcases A with _ | ad
  · have hy : m = 0 := by
      rcases Nat.eq_zero_or_pos m with h | h
      · exact h
      · obtain ⟨b, o, e', hb, hc⟩ := hz (fun h0 => by rw [h0] at hl; simp only [List.length_nil] at hl; omega)
        cases e'
    subst hy
    obtain rfl : news = [] := List.eq_nil_of_length_eq_zero (by rw [hl, Nat.zero_mul])
    exact ⟨v, w, run_append_none (P := Tryz.prog) w base 34 ty 9 i0 1 Tryz.underlying34 hi0 v n xs hown C, by simpa using hown, ⟨rfl, rfl, rfl, Nat.le_refl _, fun _ _ _ => rfl⟩, fun b hb => .inl hb⟩
  · have hcell : ∀ j u, news[j]? = some u → w.cell? (ad.add j) = some u := fun j u hu => by
      obtain ⟨b, o, e', hb, hc⟩ := hz (by intro h0; rw [h0] at hu; simp at hu)
      injection e' with e'
      subst e'
      rw [Addr.add_lit]
      exact hc j u hu
    obtain ⟨v', w', hrun, k2, k3, _, k5⟩ := run_append_own_at (P := Tryz.prog) w base 34 ty 9 i0 _ 1 16 Tryz.underlying34 hi0 hz0 hz1 hz2 rfl (by decide) v n xs hown ad m C news hl hcell h1 (by simp only [maxLen]; omega) (by omega) hbase
    exact ⟨v', w', hrun, k2, k3, fun b hb => by
      rcases k5 with k5 | k5
      · exact .inl (by rw [← k5]; exact hb)
      · rw [k5] at hb; injection hb with hb; exact .inr hb.symm⟩
theorem appXStrN {w : World} {ops : Array Oper} {rest : List Oper} {o : Oper} {a : Act} {Q : Exit → Act → World → Prop} (hgd : o.guard = none) (s x : Operand)
    (ho : o.op = .call { callee := .builtin .append, args := #[s, x], argTypes := #[34, 34] })
    (base : Nat) (v : Value) (n : Nat) (xs : List Value) (hs0 : a.eval s = v) (hown : w.ownsRow base 9 1 v n xs)
    (A : Option Addr) (m C : Nat) (news : List Value) (hx : a.eval x = .slice A m C) (hl : news.length = m * 1) (hz : Sl w.heap.size w A news) (h1 : ∀ u ∈ news, u.oneCell' = true)
    (hn : n + m ≤ 1000000) (hbase : base ≤ w.heap.size)
    (h : ∀ v' w', w'.ownsRow base 9 1 v' (n + m) (xs ++ news) → w.grownBy w' v.ownBlock → (∀ b, v'.ownBlock = some b → v.ownBlock = some b ∨ b = w.heap.size) → wpList Tryz.prog ops Q rest (a.put o.dst v') w') : wpList Tryz.prog ops Q (o :: rest) a w := by
  refine wpList_plain hgd fun K hK => ?_
  obtain ⟨v', w', hrun, k2, k3, k4⟩ := runXStrN o.type base v n xs hown A m C news hl hz h1 hn hbase
  unfold Oper.wp execOp
  simp only [ho, resolve, invoke, builtin, Sem.run_bind, Sem.run_pure, Result.andThen_ok, List.map_toArray, List.map_cons, List.map_nil, hs0, hx, hrun]
  exact hK _ _ (h v' w' k2 k3 k4)
theorem runXRowN {w : World} (ty : TypeId) (base : Nat) (v : Value) (n : Nat) (xs : List Value) (hown : w.ownsRow base 42 1 v n xs)
    (A : Option Addr) (m C : Nat) (news : List Value) (hl : news.length = m * 1) (hz : Sl w.heap.size w A news) (h1 : ∀ u ∈ news, u.oneCell' = true) (hn : n + m ≤ 1000000) (hbase : base ≤ w.heap.size) :
    ∃ v' w', (Builtin.append_ #[38, 38] ty #[v, .slice A m C]).run Tryz.prog w = .ok v' w' ∧ w'.ownsRow base 42 1 v' (n + m) (xs ++ news) ∧ w.grownBy w' v.ownBlock ∧ (∀ b, v'.ownBlock = some b → v.ownBlock = some b ∨ b = w.heap.size) := by
  obtain ⟨i0, hi0, hz0, hz1, hz2⟩ := info_parts rowInfo
  rcases A with _ | ad
  · have hy : m = 0 := by
      rcases Nat.eq_zero_or_pos m with h | h
      · exact h
      · obtain ⟨b, o, e', hb, hc⟩ := hz (fun h0 => by rw [h0] at hl; simp only [List.length_nil] at hl; omega)
        cases e'
    subst hy
    obtain rfl : news = [] := List.eq_nil_of_length_eq_zero (by rw [hl, Nat.zero_mul])
    exact ⟨v, w, run_append_none (P := Tryz.prog) w base 38 ty 42 i0 1 Tryz.underlying38 hi0 v n xs hown C, by simpa using hown, ⟨rfl, rfl, rfl, Nat.le_refl _, fun _ _ _ => rfl⟩, fun b hb => .inl hb⟩
  · have hcell : ∀ j u, news[j]? = some u → w.cell? (ad.add j) = some u := fun j u hu => by
      obtain ⟨b, o, e', hb, hc⟩ := hz (by intro h0; rw [h0] at hu; simp at hu)
      injection e' with e'
      subst e'
      rw [Addr.add_lit]
      exact hc j u hu
    obtain ⟨v', w', hrun, k2, k3, _, k5⟩ := run_append_own_at (P := Tryz.prog) w base 38 ty 42 i0 _ 1 24 Tryz.underlying38 hi0 hz0 hz1 hz2 rfl (by decide) v n xs hown ad m C news hl hcell h1 (by simp only [maxLen]; omega) (by omega) hbase
    exact ⟨v', w', hrun, k2, k3, fun b hb => by
      rcases k5 with k5 | k5
      · exact .inl (by rw [← k5]; exact hb)
      · rw [k5] at hb; injection hb with hb; exact .inr hb.symm⟩
theorem appXRowN {w : World} {ops : Array Oper} {rest : List Oper} {o : Oper} {a : Act} {Q : Exit → Act → World → Prop} (hgd : o.guard = none) (s x : Operand)
    (ho : o.op = .call { callee := .builtin .append, args := #[s, x], argTypes := #[38, 38] })
    (base : Nat) (v : Value) (n : Nat) (xs : List Value) (hs0 : a.eval s = v) (hown : w.ownsRow base 42 1 v n xs)
    (A : Option Addr) (m C : Nat) (news : List Value) (hx : a.eval x = .slice A m C) (hl : news.length = m * 1) (hz : Sl w.heap.size w A news) (h1 : ∀ u ∈ news, u.oneCell' = true)
    (hn : n + m ≤ 1000000) (hbase : base ≤ w.heap.size)
    (h : ∀ v' w', w'.ownsRow base 42 1 v' (n + m) (xs ++ news) → w.grownBy w' v.ownBlock → (∀ b, v'.ownBlock = some b → v.ownBlock = some b ∨ b = w.heap.size) → wpList Tryz.prog ops Q rest (a.put o.dst v') w') : wpList Tryz.prog ops Q (o :: rest) a w := by
  refine wpList_plain hgd fun K hK => ?_
  obtain ⟨v', w', hrun, k2, k3, k4⟩ := runXRowN o.type base v n xs hown A m C news hl hz h1 hn hbase
  unfold Oper.wp execOp
  simp only [ho, resolve, invoke, builtin, Sem.run_bind, Sem.run_pure, Result.andThen_ok, List.map_toArray, List.map_cons, List.map_nil, hs0, hx, hrun]
  exact hK _ _ (h v' w' k2 k3 k4)
theorem elemStrs : Tryz.prog.elem 34 = 9 := by kernel_rfl
theorem underStrs : Tryz.prog.underlying 34 = some (.slice (Tryz.prog.elem 34)) := by kernel_rfl
theorem slTailS (A : Option Addr) (len cap k : Nat) (h : k ≤ len) (W : World) : (Instr.slice 34 (.slice A len cap) (some (.int .i64 (k : Int))) none none).run Tryz.prog W = .ok (.slice (tailA A k cap) (len - k) (cap - k)) W := by
  rw [run_slice_l W 34 A len cap underStrs .i64 k (by omega) (by omega), elemStrs, Tryz.sizeOf9]
  simp [tailA, sliced, Result.andThen]
theorem slHeadS (A : Option Addr) (len cap k : Nat) (h : k ≤ cap) (W : World) : (Instr.slice 34 (.slice A len cap) none (some (.int .i64 (k : Int))) none).run Tryz.prog W = .ok (.slice A k cap) W := by
  rw [run_slice_h W 34 A len cap underStrs .i64 k (by omega) (by omega), elemStrs, Tryz.sizeOf9]
  cases A <;> simp [sliced, Addr.add, Result.andThen]
theorem Sl.takeN {B : Nat} {w : World} {A : Option Addr} {xs : List Value} (h : Sl B w A xs) (k : Nat) : Sl B w A (xs.take k) := fun hn => by
  obtain ⟨b, o, e, hb, hc⟩ := h (by intro h0; rw [h0] at hn; simp at hn)
  exact ⟨b, o, e, hb, fun i u hu => by
    have hi : i < k := by
      rcases Nat.lt_or_ge i k with h1 | h1
      · exact h1
      · rw [List.getElem?_eq_none (by rw [List.length_take]; omega)] at hu; cases hu
    rw [List.getElem?_take_of_lt hi] at hu
    exact hc i u hu⟩
theorem Sl.tailN {B : Nat} {w : World} {A : Option Addr} {xs : List Value} {cap : Nat} (h : Sl B w A xs) (hc : xs.length ≤ cap) (k : Nat) : Sl B w (tailA A k cap) (xs.drop k) := fun hn => by
  have hk : k < xs.length := by
    rcases Nat.lt_or_ge k xs.length with h1 | h1
    · exact h1
    · rw [List.drop_eq_nil_iff.2 h1] at hn; exact absurd rfl hn
  obtain ⟨b, o, rfl, hb, hcl⟩ := h (by intro h0; rw [h0] at hk; simp at hk)
  refine ⟨b, o + k, ?_, hb, fun i u hu => ?_⟩
  · unfold tailA
    rw [if_neg (by omega)]
    simp [Addr.add_lit]
  · rw [List.getElem?_drop] at hu
    rw [Nat.add_assoc]
    exact hcl _ _ hu

def contN (ns : List ByteArray) (nm : ByteArray) (j : Nat) : Bool := match ns[j]? with
  | some a => decide (RL.cmpS a nm < 0)
  | none => false
theorem contN_end {ns : List ByteArray} {nm : ByteArray} {j : Nat} (h : ¬ j < ns.length) : contN ns nm j = false := by
  unfold contN; rw [List.getElem?_eq_none (by omega)]
theorem contN_at {ns : List ByteArray} {nm : ByteArray} {j : Nat} (h : j < ns.length) : contN ns nm j = decide (RL.cmpS ns[j] nm < 0) := by
  unfold contN; rw [List.getElem?_eq_getElem h]
theorem NamesOf.ins {S0 : Sch} {p : ByteArray × List Int} {l : List ByteArray} (h : NamesOf S0 l) (hn : p.1 ∉ S0.map Prod.fst) {j : Nat}
    (hlt : ∀ t (ht : t < l.length), t < j → RL.cmpS l[t] p.1 < 0) (hge : contN l p.1 j = false) : NamesOf (S0 ++ [p]) (l.take j ++ [p.1] ++ l.drop j) := by
  obtain ⟨h1, h2⟩ := h
  refine ⟨?_, ?_⟩
  · rw [List.map_append]
    have e1 : (l.take j ++ [p.1] ++ l.drop j).Perm (l.take j ++ l.drop j ++ [p.1]) := by
      rw [List.append_assoc, List.append_assoc]
      exact List.Perm.append_left _ List.perm_append_comm
    rw [List.take_append_drop] at e1
    exact e1.trans (List.Perm.append_right _ h1)
  · have hbig : ∀ t (ht : t < l.length), j ≤ t → RL.cmpS p.1 l[t] < 0 := fun t ht hjt => by
      have hj : j < l.length := by omega
      rw [contN_at hj] at hge
      have hge := of_decide_eq_false hge
      have hne : RL.cmpS l[j] p.1 ≠ 0 := fun e => hn (by
        rw [← (RL.tot_cmpS.z _ _).1 e]
        exact h1.mem_iff.1 (List.getElem_mem hj))
      have hlt2 : RL.cmpS p.1 l[j] < 0 := by have := RL.tot_cmpS.sw l[j] p.1; omega
      rcases Nat.lt_or_ge j t with h3 | h3
      · exact RL.tot_cmpS.tr _ _ _ hlt2 (List.pairwise_iff_getElem.1 h2 j t hj ht h3)
      · obtain rfl : t = j := by omega
        exact hlt2
    have hsm : ∀ a ∈ l.take j, RL.cmpS a p.1 < 0 := fun a ha => by
      obtain ⟨t, ht, rfl⟩ := List.getElem_of_mem ha
      rw [List.length_take] at ht
      rw [List.getElem_take]
      exact hlt t (by omega) (by omega)
    have hbg : ∀ b ∈ l.drop j, RL.cmpS p.1 b < 0 := fun b hb => by
      obtain ⟨t, ht, rfl⟩ := List.getElem_of_mem hb
      rw [List.length_drop] at ht
      rw [List.getElem_drop]
      exact hbig (j + t) (by omega) (by omega)
    rw [List.append_assoc, List.pairwise_append]
    refine ⟨h2.sublist (List.take_sublist _ _), ?_, fun a ha b hb => ?_⟩
    · rw [List.singleton_append, List.pairwise_cons]
      exact ⟨hbg, h2.sublist (List.drop_sublist _ _)⟩
    · rw [List.singleton_append] at hb
      rcases List.mem_cons.1 hb with rfl | hb
      · exact hsm a ha
      · exact RL.tot_cmpS.tr _ _ _ (hsm a ha) (hbg b hb)

set_option maxHeartbeats 8000000 in
theorem r08Names_any (SA : Option Addr) (SC : Nat) (S : Sch) (fv : Value) (w : World) (hS : SchsM w.heap.size w SA S) (hSl : S.length ≤ 1000) (hnd : (S.map Prod.fst).Nodup) :
    Calls Tryz.prog 13 #[.agg #[.slice SA S.length SC, fv]] w fun e w' => ∃ A C, ∃ ns : List ByteArray, e = .returned (.slice A ns.length C) ∧ NamesOf S ns ∧ Sl w'.heap.size w' A (ns.map Value.string) ∧ Below w.heap.size w w' := by
  obtain ⟨W0, hW0⟩ : ∃ W, W = w.alloc (.cells #[.slice SA S.length SC, fv] 31) := ⟨_, rfl⟩
  have hx0 : Ext w W0 := by rw [hW0]; exact (Ext.refl w).alloc _
  have HR0 : Hid (Row W0 w.heap.size 31 [.slice SA S.length SC, fv]) := by show Row _ _ _ _; rw [hW0]; exact Row.new w _ _
  have HB0 := Lib.hid hx0.below
  have HZ0 : Hid (W0.heap.size = w.heap.size + 1) := by show _ = _; rw [hW0]; simp
  have HS := Lib.hid hS
  have HND : Hid (S.map Prod.fst).Nodup := hnd
  obtain ⟨g, hg⟩ : ∃ g, g = w.heap.size := ⟨_, rfl⟩
  have HG : Hid (g = w.heap.size) := hg
  rw [← hg] at HR0
  clear hS hx0 hnd
  go_enter Tryz.func13, Tryz.ntmps13
  go_upto_region 1 with (fail)
  rw [← hW0, ← hg]
  clear hW0 hg
  go_wp2_with fail
  go_loopw [3, 4] (fun v i wx => ∃ (k : Nat) (ns : List ByteArray), k ≤ S.length ∧ i = .int .i64 k ∧ wx.ownsRow (g + 1) 9 1 v ns.length (ns.map Value.string) ∧ NamesOf (S.take k) ns ∧ Below (g + 1) W0 wx) (fun _ i _ => S.length - (intOf i).toNat)
  case atStart => exact ⟨0, [], Nat.zero_le _, rfl, own_nil _ _ _ _, ⟨List.Perm.refl _, List.Pairwise.nil⟩, Below.refl _ _⟩
  case round =>
    obtain ⟨k, ns, hk, rfl, hown, hns, hbr⟩ := hrel
    obtain ⟨wo, hwo⟩ : ∃ wo, wo = wr := ⟨_, rfl⟩
    subst hwo
    obtain ⟨VA, VC, rfl, hvc, hsl⟩ := Sl.of_own_n hown
    have HO := Lib.hid hown
    have HNS := Lib.hid hns
    have HBR := Lib.hid hbr
    have HSL := Lib.hid hsl
    have HR := Lib.hid (HR0.out.below hbr (Nat.lt_succ_self _))
    have hnl : ns.length ≤ 1000 := by have h1 := hns.1.length_eq; rw [List.length_map, List.length_take] at h1; omega
    have c0 : wo.cell? ⟨g, 0, none⟩ = some (.slice SA S.length SC) := HR.out.cell 0
    have z0 := HR.out.lt
    clear hown hns hbr hsl
    by_cases hkl : k < S.length
    · obtain ⟨ab, ao, rfl, hab, hac⟩ := HS.out (by intro h0; rw [h0] at hkl; simp at hkl)
      obtain ⟨KA, KC, d0, -, -⟩ := hac k hkl
      have HBW : Hid (Below w.heap.size w wo) := HB0.out.trans (HBR.out.mono (by have := HG.out; omega))
      have HD0 := Lib.hid d0
      have HDK : Hid (∀ V, Below (g + 1) W0 V → V.cell? ⟨g, 0, none⟩ = some (.slice (some ⟨ab, ao, none⟩) S.length SC) ∧ V.cell? ⟨ab, ao + k * 2, none⟩ = some (.string S[k].1) ∧ g < V.heap.size ∧ ab < V.heap.size) := fun V hb => by
        have hbw : Below w.heap.size w V := HB0.out.trans (hb.mono (by have := HG.out; omega))
        have hr := HR0.out.below hb (Nat.lt_succ_self _)
        exact ⟨hr.cell 0, cell_below hbw HD0.out, hr.lt, Nat.lt_of_lt_of_le hab hbw.size⟩
      have d0 := cell_below HBW.out d0
      have hab2 : ab < wo.heap.size := Nat.lt_of_lt_of_le hab HBW.out.size
      clear HD0
      have HNX : Hid (∀ j, (∀ t (ht : t < ns.length), t < j → RL.cmpS ns[t] S[k].1 < 0) → contN ns S[k].1 j = false → NamesOf (S.take (k + 1)) (ns.take j ++ [S[k].1] ++ ns.drop j)) := fun j h1 h2 => by
        rw [List.take_succ_eq_append_getElem hkl]
        refine HNS.out.ins ?_ h1 h2
        have h3 := HND.out
        rw [← List.take_append_drop (k + 1) S, List.take_succ_eq_append_getElem hkl, List.append_assoc, List.map_append, List.nodup_append] at h3
        intro hm
        exact h3.2.2 _ hm _ (List.mem_map.2 ⟨S[k], List.mem_append_left _ (List.mem_singleton.2 rfl), rfl⟩) rfl
      clear hac
      generalize S[k].1 = nm at d0 HNX HDK
      have g1 : (0 : Int) ≤ (k : Int) := by omega
      have g2 : (k : Int) < (S.length : Int) := by omega
      go_wp2_with fail
      go_loopw [5] (fun c wx => ∃ j : Nat, j ≤ ns.length ∧ c = .int .i64 j ∧ (∀ t (ht : t < ns.length), t < j → RL.cmpS ns[t] nm < 0) ∧ Ext wo wx) (fun c _ => ns.length - (intOf c).toNat)
      case atStart => exact ⟨0, Nat.zero_le _, rfl, fun t _ ht => absurd ht (Nat.not_lt_zero _), Ext.refl _⟩
      case round =>
        obtain ⟨j, hj, rfl, hall, hx⟩ := hrel
        have HALL := Lib.hid hall
        have HX := Lib.hid hx
        have hzz := hx.size
        have c0 := (hx.cell z0).trans c0
        have d0 := (hx.cell hab2).trans d0
        clear hall hx
        go_upto_region 6 with (fail)
        go_cut [30] from 14 to 30 (fun q wx => q = .bool (contN ns nm j) ∧ Ext wr wx)
        case first =>
          by_cases hjl : j < ns.length
          · obtain ⟨vb, vo, rfl, hvb, e0⟩ := HSL.out.at_ (k := j) (by rw [List.length_map]; exact hjl)
            rw [List.getElem_map] at e0
            have e0 := (HX.out.cell hvb).trans e0
            have hq := contN_at (nm := nm) hjl
            rw [← bytesLess_cmp] at hq
            have HQ := Lib.hid hq
            have p0 : (0 : Int) ≤ (j : Int) := by omega
            have p1 : (j : Int) < (ns.length : Int) := by omega
            have p2 : vb < wr.heap.size := by omega
            have p3 : ab < wr.heap.size := by omega
            have p4 : g < wr.heap.size := by omega
            clear hq
            generalize ns[j] = a at e0 HQ
            go_quiet (fail)
            go_wp2_with fail
            go_meet
            case rel => exact ⟨by rw [HQ.out], (Ext.refl _).drewN _⟩
          · have HQ := Lib.hid (contN_end (nm := nm) hjl)
            have p1 : ¬ (j : Int) < (ns.length : Int) := by omega
            have p5 : decide ((j : Int) < (ns.length : Int)) = false := decide_eq_false p1
            go_quiet (fail)
            go_wp2_with fail
            go_meet
            case rel => exact ⟨by rw [HQ.out], (Ext.refl _).drewN _⟩
        case rest =>
        obtain ⟨rfl, hx1⟩ := hcut
        generalize wc = w1 at *
        have HX1 := Lib.hid (HX.out.trans hx1)
        cases hcn : contN ns nm j with
        | true =>
          have hjl : j < ns.length := by
            rcases Nat.lt_or_ge j ns.length with h | h
            · exact h
            · rw [contN_end (by omega)] at hcn; cases hcn
          have HAJ : Hid (RL.cmpS ns[j] nm < 0) := by
            rw [contN_at hjl] at hcn
            exact Lib.hid (of_decide_eq_true hcn)
          have hw1 : IntKind.i64.wrap ((j : Int) + 1) = ((j + 1 : Nat) : Int) := by rw [IntWalk.i64_in _ (by omega)]; omega
          clear hcn
          go_wp2_with fail
          go_roundw
          case rel => exact ⟨j + 1, hjl, by go_num, fun t ht htj => by
            rcases Nat.lt_or_ge t j with h | h
            · exact HALL.out t ht h
            · obtain rfl : t = j := by omega
              exact HAJ.out, HX1.out⟩
          case measure => simp [intOf]; omega
        | false =>
          have HNN := Lib.hid (HNX.out j HALL.out hcn)
          have c0 := (hx1.cell (by omega)).trans c0
          have d0 := (hx1.cell (by omega)).trans d0
          have hz1 := hx1.size
          have hsh := slHeadS VA ns.length VC j (by omega)
          have hst := slTailS VA ns.length VC j hj
          obtain ⟨TA, hTA⟩ : ∃ TA, TA = tailA VA j VC := ⟨_, rfl⟩
          rw [← hTA] at hst
          have hsl1 := Sl.more (Sl.ext HSL.out (Nat.le_refl _) HX1.out) HX1.out.size
          have HHD : Hid (Sl w1.heap.size w1 VA ((ns.take j).map Value.string)) := by show Sl _ _ _ _; rw [List.map_take]; exact hsl1.takeN j
          have HTL : Hid (Sl w1.heap.size w1 TA ((ns.drop j).map Value.string)) := by show Sl _ _ _ _; rw [List.map_drop, hTA]; exact hsl1.tailN (by rw [List.length_map]; exact hvc) j
          have HB1 := Lib.hid (HBR.out.trans (HX1.out.below.mono (by omega)))
          have HL1 : Hid (((ns.take j).map Value.string).length = j * 1) := by show _ = _; rw [List.length_map, List.length_take]; omega
          have HL2 : Hid (((ns.drop j).map Value.string).length = (ns.length - j) * 1) := by show _ = _; rw [List.length_map, List.length_drop]; omega
          obtain ⟨h1s, hh1s⟩ : ∃ h, h = (ns.take j).map Value.string := ⟨_, rfl⟩
          obtain ⟨h2s, hh2s⟩ : ∃ h, h = (ns.drop j).map Value.string := ⟨_, rfl⟩
          have HC1 : Hid (∀ u ∈ h1s, u.oneCell' = true) := fun u hu => by rw [hh1s] at hu; obtain ⟨a, -, rfl⟩ := List.mem_map.1 hu; rfl
          have HC2 : Hid (∀ u ∈ h2s, u.oneCell' = true) := fun u hu => by rw [hh2s] at hu; obtain ⟨a, -, rfl⟩ := List.mem_map.1 hu; rfl
          have HH1 := Lib.hid hh1s
          have HH2 := Lib.hid hh2s
          rw [← hh1s] at HHD HL1
          rw [← hh2s] at HTL HL2
          have hgz : g + 1 ≤ w1.heap.size := by omega
          clear hTA hsl1 hcn hx1 hh1s hh2s HNX HALL HSL HX HX1
          have hw1 : IntKind.i64.wrap ((k : Int) + 1) = ((k + 1 : Nat) : Int) := by rw [IntWalk.i64_in _ (by omega)]; omega
          have HE0 := Lib.hid (own_emptyF w1 (g + 1) 9 1 hgz)
          have HX2 : Hid (Ext w1 (w1.alloc (.cells #[] 9))) := (Ext.refl w1).alloc _
          have HB2 : Hid (Below (g + 1) W0 (w1.alloc (.cells #[] 9))) := HB1.out.trans (HX2.out.below.mono hgz)
          have HS2 := Lib.hid (Sl.more (Sl.ext HHD.out (Nat.le_refl _) HX2.out) HX2.out.size)
          have HTK : Hid (∀ V, Below w1.heap.size w1 V → Sl V.heap.size V TA h2s) := fun V hb => Sl.more (Sl.below HTL.out hb (Nat.le_refl _)) hb.size
          clear c0 d0 hab2 z0
          go_wp2_with (first
            | (at_builtin; refine appXStrN rfl (.tmp 33) (.tmp 36) rfl (g + 1) (.slice (some ⟨w1.heap.size, 0, none⟩) 0 0) 0 [] rfl HE0.out VA j VC h1s rfl HL1.out HS2.out HC1.out (by omega) (by simp; omega) ?_
               intro v2 w2 hown2 hg2 hat2
               have hb2 := HB2.out.grown hg2 (by simp; omega) (fun q hq => own_base HE0.out hq)
               have hbn : Below w1.heap.size w1 w2 := HX2.out.below.grown hg2 (by simp) (fun q hq => by simp [Value.ownBlock] at hq; omega)
               have HBN := Lib.hid hbn
               obtain ⟨c0, d0, z0, hab2⟩ := HDK.out w2 hb2
               have hgz2 : g + 1 ≤ w2.heap.size := z0
               have HO2 := Lib.hid (hown2.alloc (.cells #[.string nm] 9))
               have HB2' := Lib.hid (hb2.alloc hgz2 (.cells #[.string nm] 9))
               have HV2 : Hid (∀ q, v2.ownBlock = some q → w1.heap.size ≤ q) := fun q hq => by
                 rcases hat2 q hq with h | h
                 · simp [Value.ownBlock] at h; omega
                 · rw [h]; simp
               have HS3 : Hid (Sl (w2.alloc (.cells #[.string nm] 9)).heap.size (w2.alloc (.cells #[.string nm] 9)) (some ⟨w2.heap.size, 0, none⟩) [.string nm]) := (Row.new w2 9 [.string nm]).sl
               have HBN2 : Hid (Below w1.heap.size w1 (w2.alloc (.cells #[.string nm] 9))) := hbn.alloc hbn.size _
               clear hown2 hg2 hat2 hb2 hbn)
            | (at_builtin; refine appXStrN rfl (.tmp 38) (.tmp 45) rfl (g + 1) v2 (0 + j) ([] ++ h1s) rfl HO2.out (some ⟨w2.heap.size, 0, none⟩) 1 1 [.string nm] rfl rfl HS3.out (fun u hu => by rw [List.mem_singleton.1 hu]; rfl) (by omega) (by simp; omega) ?_
               intro v3 w3 hown3 hg3 hat3
               have HO3 := Lib.hid hown3
               have hb3 := HB2'.out.grown hg3 (by simp; omega) (fun q hq => own_base HO2.out hq)
               have hbn3 := HBN2.out.grown hg3 (by have := HBN.out.size; simp; omega) HV2.out
               have HB3 := Lib.hid hb3
               have HBN3 := Lib.hid hbn3
               have HV3 : Hid (∀ q, v3.ownBlock = some q → w1.heap.size ≤ q) := fun q hq => by
                 rcases hat3 q hq with h | h
                 · exact HV2.out q h
                 · rw [h]; have := HBN.out.size; simp; omega
               have hgz3 : g + 1 ≤ w3.heap.size := (HDK.out w3 hb3).2.2.1
               clear hown3 hg3 hb3 hbn3 hat3)
            | (at_builtin; refine appXStrN rfl (.tmp 47) (.tmp 50) rfl (g + 1) v3 (0 + j + 1) ([] ++ h1s ++ [.string nm]) rfl HO3.out TA (ns.length - j) (VC - j) h2s rfl HL2.out (HTK.out w3 HBN3.out) HC2.out (by omega) hgz3 ?_
               intro v4 w4 hown4 hg4 hat4
               have HO4 := Lib.hid hown4
               have HB4 := Lib.hid (HB3.out.grown hg4 hgz3 (fun q hq => own_base HO3.out hq))
               clear hown4 hg4 hat4)
            | fail)
          have HO5 : Hid (w4.ownsRow (g + 1) 9 1 v4 (ns.take j ++ [nm] ++ ns.drop j).length ((ns.take j ++ [nm] ++ ns.drop j).map Value.string)) := by
            have h := HO4.out
            rw [HH1.out, HH2.out, List.nil_append, show 0 + j + 1 + (ns.length - j) = (ns.take j ++ [nm] ++ ns.drop j).length by simp; omega] at h
            show World.ownsRow _ _ _ _ _ _ _
            rw [List.map_append, List.map_append]
            exact h
          go_roundw
          case rel => exact ⟨k + 1, _, hkl, by go_num, HO5.out, HNN.out, HB4.out⟩
          case measure => simp [intOf]; omega
    · obtain rfl : k = S.length := by omega
      rw [List.take_length] at HNS
      have g2 : ¬ (S.length : Int) < (S.length : Int) := by omega
      go_wp2_with fail
      go_ret
      exact ⟨VA, VC, ns, rfl, HNS.out, HSL.out, HB0.out.trans (HBR.out.mono (by have := HG.out; omega))⟩
end
section
open Go.RowKit Go.Sort Go.ChangeMaps Go.WideShapes

structure RowCs (B : Nat) (w : World) (X : List RL.R) (hs : List Value) : Prop where
  len : hs.length = X.length
  one : ∀ u ∈ hs, u.oneCell' = true
  at_ : ∀ i (h : i < X.length), ∃ RA RC, hs[i]? = some (.slice RA X[i].length RC) ∧ SlR B w RA X[i]
section
variable {B : Nat} {w w' : World} {X Y : List RL.R} {hs ks : List Value}
theorem RowCs.nil : RowCs B w [] [] := ⟨rfl, fun u hu => (by cases hu), fun i hi => absurd hi (Nat.not_lt_zero _)⟩
theorem RowCs.one1 {x : RL.R} {RA : Option Addr} {RC : Nat} (h : SlR B w RA x) : RowCs B w [x] [.slice RA x.length RC] := by
  refine ⟨rfl, fun u hu => by rw [List.mem_singleton.1 hu]; rfl, fun i hi => ?_⟩
  obtain rfl : i = 0 := by simpa using hi
  exact ⟨RA, RC, rfl, h⟩
theorem RowCs.append (h : RowCs B w X hs) (k : RowCs B w Y ks) : RowCs B w (X ++ Y) (hs ++ ks) := by
  refine ⟨by rw [List.length_append, List.length_append, h.len, k.len], fun u hu => ?_, fun i hi => ?_⟩
  · rcases List.mem_append.1 hu with hu | hu
    · exact h.one u hu
    · exact k.one u hu
  · have hl := h.len
    by_cases hlt : i < X.length
    · obtain ⟨RA, RC, a, b⟩ := h.at_ i hlt
      refine ⟨RA, RC, ?_, ?_⟩
      · rw [List.getElem?_append_left (by omega), List.getElem_append_left hlt]; exact a
      · rw [List.getElem_append_left hlt]; exact b
    · rw [List.length_append] at hi
      obtain ⟨RA, RC, a, b⟩ := k.at_ (i - X.length) (by omega)
      refine ⟨RA, RC, ?_, ?_⟩
      · rw [List.getElem?_append_right (by omega), List.getElem_append_right (by omega), hl]; exact a
      · rw [List.getElem_append_right (by omega)]; exact b
theorem RowCs.take (h : RowCs B w X hs) (n : Nat) : RowCs B w (X.take n) (hs.take n) := by
  refine ⟨by rw [List.length_take, List.length_take, h.len], fun u hu => h.one u (List.mem_of_mem_take hu), fun i hi => ?_⟩
  rw [List.length_take] at hi
  obtain ⟨RA, RC, a, b⟩ := h.at_ i (by omega)
  exact ⟨RA, RC, by rw [List.getElem?_take_of_lt (by omega), List.getElem_take]; exact a, by rw [List.getElem_take]; exact b⟩
theorem RowCs.drop (h : RowCs B w X hs) (n : Nat) : RowCs B w (X.drop n) (hs.drop n) := by
  refine ⟨by rw [List.length_drop, List.length_drop, h.len], fun u hu => h.one u (List.mem_of_mem_drop hu), fun i hi => ?_⟩
  rw [List.length_drop] at hi
  obtain ⟨RA, RC, a, b⟩ := h.at_ (n + i) (by omega)
  exact ⟨RA, RC, by rw [List.getElem?_drop, List.getElem_drop]; exact a, by rw [List.getElem_drop]; exact b⟩
theorem RowCs.up (h : RowCs w.heap.size w X hs) (hb : Below w.heap.size w w') : RowCs w'.heap.size w' X hs :=
  ⟨h.len, h.one, fun i hi => by obtain ⟨RA, RC, a, b⟩ := h.at_ i hi; exact ⟨RA, RC, a, (Sl.below b hb (Nat.le_refl _)).more hb.size⟩⟩
end

def contR (X : List RL.R) (x : RL.R) (j : Nat) : Bool := match X[j]? with
  | some a => decide (RL.cmpR a x < 0)
  | none => false
theorem contR_end {X : List RL.R} {x : RL.R} {j : Nat} (h : ¬ j < X.length) : contR X x j = false := by
  unfold contR; rw [List.getElem?_eq_none (by omega)]
theorem contR_at {X : List RL.R} {x : RL.R} {j : Nat} (h : j < X.length) : contR X x j = decide (RL.cmpR X[j] x < 0) := by
  unfold contR; rw [List.getElem?_eq_getElem h]
theorem ss_ins {X : List RL.R} (h : RL.SS X) {x : RL.R} (hn : x ∉ X) {j : Nat} (hlt : ∀ t (ht : t < X.length), t < j → RL.cmpR X[t] x < 0) (hge : contR X x j = false) : RL.SS (X.take j ++ [x] ++ X.drop j) := by
  have hbig : ∀ t (ht : t < X.length), j ≤ t → RL.cmpR x X[t] < 0 := fun t ht hjt => by
    have hj : j < X.length := by omega
    rw [contR_at hj] at hge
    have hge := of_decide_eq_false hge
    have hne : RL.cmpR X[j] x ≠ 0 := fun e => hn (by
      rw [← (RL.tot_cmpR.z _ _).1 e]
      exact List.getElem_mem hj)
    have hlt2 : RL.cmpR x X[j] < 0 := by have := RL.tot_cmpR.sw X[j] x; omega
    rcases Nat.lt_or_ge j t with h3 | h3
    · exact RL.tot_cmpR.tr _ _ _ hlt2 (List.pairwise_iff_getElem.1 h j t hj ht h3)
    · obtain rfl : t = j := by omega
      exact hlt2
  have hsm : ∀ a ∈ X.take j, RL.cmpR a x < 0 := fun a ha => by
    obtain ⟨t, ht, rfl⟩ := List.getElem_of_mem ha
    rw [List.length_take] at ht
    rw [List.getElem_take]
    exact hlt t (by omega) (by omega)
  have hbg : ∀ b ∈ X.drop j, RL.cmpR x b < 0 := fun b hb => by
    obtain ⟨t, ht, rfl⟩ := List.getElem_of_mem hb
    rw [List.length_drop] at ht
    rw [List.getElem_drop]
    exact hbig (j + t) (by omega) (by omega)
  show List.Pairwise _ _
  rw [List.append_assoc, List.pairwise_append]
  refine ⟨List.Pairwise.sublist (List.take_sublist _ _) h, ?_, fun a ha b hb => ?_⟩
  · rw [List.singleton_append, List.pairwise_cons]
    exact ⟨hbg, List.Pairwise.sublist (List.drop_sublist _ _) h⟩
  · rw [List.singleton_append] at hb
    rcases List.mem_cons.1 hb with rfl | hb
    · exact hsm a ha
    · exact RL.tot_cmpR.tr _ _ _ (hsm a ha) (hbg b hb)
def RowsIn (Fs : List Fact) (nm : ByteArray) (X : List RL.R) : Prop := RL.SS X ∧ ∀ x, x ∈ X ↔ (nm, x) ∈ Fs
theorem RowsIn.eq {F : Cont} {Fs : List Fact} (h : RelF F Fs) {nm : ByteArray} {X : List RL.R} (k : RowsIn Fs nm X) : X = F nm :=
  RL.SS.ext k.1 (h.2.1 nm) fun x => (k.2 x).trans (h.2.2 nm x).symm
theorem RowsIn.skip {Fs : List Fact} {nm : ByteArray} {X : List RL.R} {f : Fact} (k : RowsIn Fs nm X) (h : f.1 ≠ nm) : RowsIn (Fs ++ [f]) nm X :=
  ⟨k.1, fun x => by
    rw [k.2 x, List.mem_append, List.mem_singleton]
    exact ⟨Or.inl, fun e => e.elim id fun e => absurd (by rw [← e]) h⟩⟩
theorem RowsIn.ins {Fs : List Fact} {nm : ByteArray} {X : List RL.R} {x : RL.R} (k : RowsIn Fs nm X) (hn : (nm, x) ∉ Fs) {j : Nat} (hlt : ∀ t (ht : t < X.length), t < j → RL.cmpR X[t] x < 0) (hge : contR X x j = false) : RowsIn (Fs ++ [(nm, x)]) nm (X.take j ++ [x] ++ X.drop j) := by
  refine ⟨ss_ins k.1 (fun h => hn ((k.2 x).1 h)) hlt hge, fun y => ?_⟩
  have e : y ∈ X ↔ y ∈ X.take j ∨ y ∈ X.drop j := by rw [← List.mem_append, List.take_append_drop]
  rw [List.mem_append, List.mem_append, List.mem_singleton, List.mem_append, List.mem_singleton, ← k.2 y, e]
  constructor
  · rintro ((h | h) | h)
    · exact .inl (.inl h)
    · exact .inr (by rw [h])
    · exact .inl (.inr h)
  · rintro ((h | h) | h)
    · exact .inl (.inl h)
    · exact .inr h
    · injection h with h1 h2; exact .inl (.inr h2)

set_option maxHeartbeats 8000000 in
theorem r08Rows_at (B : Nat) (sv : Value) (FA : Option Addr) (FC : Nat) (F : Cont) (Fs : List Fact) (nm : ByteArray) (w : World) (hR : RelF F Fs) (hB : B ≤ w.heap.size) (hF : FactsM B w FA Fs) (hFl : Fs.length ≤ 1000) (hFr : ∀ f ∈ Fs, f.2.length ≤ 1000000) :
    Calls Tryz.prog 15 #[.agg #[sv, .slice FA Fs.length FC], .string nm] w fun e w' => ∃ A C, e = .returned (.slice A (F nm).length C) ∧ ∃ hs : List Value, RowCs B w (F nm) hs ∧ w'.ownsRow (w.heap.size + 1) 42 1 (.slice A (F nm).length C) (F nm).length hs ∧ Below w.heap.size w w' := by
  obtain ⟨W0, hW0⟩ : ∃ W, W = w.alloc (.cells #[sv, .slice FA Fs.length FC] 31) := ⟨_, rfl⟩
  have hx0 : Ext w W0 := by rw [hW0]; exact (Ext.refl w).alloc _
  have HR0 : Hid (Row W0 w.heap.size 31 [sv, .slice FA Fs.length FC]) := by show Row _ _ _ _; rw [hW0]; exact Row.new w _ _
  have HB0 := Lib.hid hx0.below
  have HZ0 : Hid (W0.heap.size = w.heap.size + 1) := by show _ = _; rw [hW0]; simp
  have HREL := Lib.hid hR
  have HBL : Hid (B ≤ w.heap.size) := hB
  have HFM := Lib.hid hF
  have HFR := Lib.hid hFr
  obtain ⟨g, hg⟩ : ∃ g, g = w.heap.size := ⟨_, rfl⟩
  have HG : Hid (g = w.heap.size) := hg
  rw [← hg] at HR0
  clear hF hx0 hR hFr hB
  go_enter Tryz.func15, Tryz.ntmps15
  go_upto_region 1 with (fail)
  rw [← hW0, ← hg]
  clear hW0 hg
  go_wp2_with fail
  go_loopw [5, 6] (fun v i wx => ∃ (k : Nat) (X : List RL.R) (hs : List Value), k ≤ Fs.length ∧ i = .int .i64 k ∧ wx.ownsRow (g + 1) 42 1 v X.length hs ∧ RowCs B w X hs ∧ RowsIn (Fs.take k) nm X ∧ (∀ x ∈ X, x.length ≤ 1000000) ∧ X.length ≤ k ∧ Below (g + 1) W0 wx) (fun _ i _ => Fs.length - (intOf i).toNat)
  case atStart => exact ⟨0, [], [], Nat.zero_le _, rfl, own_nil _ _ _ _, RowCs.nil, ⟨List.Pairwise.nil, fun x => by simp⟩, fun x hx => (by cases hx), Nat.zero_le _, Below.refl _ _⟩
  case round =>
    obtain ⟨k, X, hs, hk, rfl, hown, hcs, hin, hxl, hxk, hbr⟩ := hrel
    obtain ⟨wo, hwo⟩ : ∃ wo, wo = wr := ⟨_, rfl⟩
    subst hwo
    obtain ⟨VA, VC, rfl, hvc, hsl⟩ := Sl.of_own_n hown
    have HO := Lib.hid hown
    have HCS := Lib.hid hcs
    have HIN := Lib.hid hin
    have HXL := Lib.hid hxl
    have HBR := Lib.hid hbr
    have HSL := Lib.hid hsl
    have HR := Lib.hid (HR0.out.below hbr (Nat.lt_succ_self _))
    have HHL : Hid (hs.length = X.length) := hcs.len
    have c0 : wo.cell? ⟨g, 1, none⟩ = some (.slice FA Fs.length FC) := HR.out.cell 1
    have z0 := HR.out.lt
    clear hown hcs hin hxl hbr hsl
    by_cases hkl : k < Fs.length
    · obtain ⟨ab, ao, rfl, hab, hac⟩ := HFM.out (by intro h0; rw [h0] at hkl; simp at hkl)
      obtain ⟨RA, RC, d0, d1, hrow⟩ := hac k hkl
      have hab := Nat.lt_of_lt_of_le hab HBL.out
      have HBW : Hid (Below w.heap.size w wo) := HB0.out.trans (HBR.out.mono (by have := HG.out; omega))
      have HD0 := Lib.hid d0
      have HD1 := Lib.hid d1
      have HROW := Lib.hid hrow
      have HDK : Hid (∀ V, Below (g + 1) W0 V → V.cell? ⟨g, 1, none⟩ = some (.slice (some ⟨ab, ao, none⟩) Fs.length FC) ∧ V.cell? ⟨ab, ao + k * 2 + 1, none⟩ = some (.slice RA Fs[k].2.length RC) ∧ g < V.heap.size ∧ ab < V.heap.size) := fun V hb => by
        have hbw : Below w.heap.size w V := HB0.out.trans (hb.mono (by have := HG.out; omega))
        have hr := HR0.out.below hb (Nat.lt_succ_self _)
        exact ⟨hr.cell 1, cell_below hbw HD1.out, hr.lt, Nat.lt_of_lt_of_le hab hbw.size⟩
      have d0 := cell_below HBW.out d0
      have d1 := cell_below HBW.out d1
      have hab2 : ab < wo.heap.size := Nat.lt_of_lt_of_le hab HBW.out.size
      have HRL : Hid (Fs[k].2.length ≤ 1000000) := HFR.out _ (List.getElem_mem hkl)
      have HTK : Hid (Fs.take (k + 1) = Fs.take k ++ [(Fs[k].1, Fs[k].2)]) := List.take_succ_eq_append_getElem hkl
      have HNI : Hid ((Fs[k].1, Fs[k].2) ∉ Fs.take k) := by
        have h3 := HREL.out.1
        rw [← List.take_append_drop (k + 1) Fs, List.take_succ_eq_append_getElem hkl, List.append_assoc, List.nodup_append] at h3
        intro hm
        exact h3.2.2 _ hm _ (List.mem_append_left _ (List.mem_singleton.2 rfl)) rfl
      have hse := strEq_str Fs[k].1 nm
      clear hac hrow HD0
      generalize Fs[k].1 = sn at d0 hse HTK HNI
      generalize Fs[k].2 = x at d1 HDK HROW HRL HTK HNI HD1
      have g1 : (0 : Int) ≤ (k : Int) := by omega
      have g2 : (k : Int) < (Fs.length : Int) := by omega
      have hw1 : IntKind.i64.wrap ((k : Int) + 1) = ((k + 1 : Nat) : Int) := by rw [IntWalk.i64_in _ (by omega)]; omega
      by_cases hsn : sn = nm
      rotate_left
      · rw [decide_eq_false hsn] at hse
        have HIN2 : Hid (RowsIn (Fs.take (k + 1)) nm X) := by show RowsIn _ _ _; rw [HTK.out]; exact HIN.out.skip hsn
        have HKL := Lib.hid hkl
        have HXK := Lib.hid hxk
        clear hsn
        go_wp2_with fail
        go_roundw
        case rel => exact ⟨k + 1, X, hs, HKL.out, by go_num, HO.out, HCS.out, HIN2.out, HXL.out, Nat.le_succ_of_le HXK.out, HBR.out⟩
        case measure => have := HKL.out; simp [intOf]; omega
      subst hsn
      rw [decide_eq_true rfl] at hse
      have HSE := Lib.hid hse
      have HKL := Lib.hid hkl
      go_wp2_with fail
      clear hse
      go_loopw [7] (fun c wx => ∃ j : Nat, j ≤ X.length ∧ c = .int .i64 j ∧ (∀ t (ht : t < X.length), t < j → RL.cmpR X[t] x < 0) ∧ Ext wo wx) (fun c _ => X.length - (intOf c).toNat)
      case atStart => exact ⟨0, Nat.zero_le _, rfl, fun t _ ht => absurd ht (Nat.not_lt_zero _), Ext.refl _⟩
      case round =>
        obtain ⟨j, hj, rfl, hall, hx⟩ := hrel
        have HALL := Lib.hid hall
        have HX := Lib.hid hx
        have hzz := hx.size
        have c0 := (hx.cell z0).trans c0
        have d1 := (hx.cell hab2).trans d1
        clear hall hx
        go_upto_region 7 with (fail)
        go_cut [40] from 24 to 40 (fun q wx => q = .bool (contR X x j) ∧ Ext wr wx)
        case first =>
          by_cases hjl : j < X.length
          · obtain ⟨vb, vo, rfl, hvb, e0⟩ := HSL.out.at_ (k := j) (by rw [HHL.out]; exact hjl)
            obtain ⟨YA, YC, y0, hy⟩ := HCS.out.at_ j hjl
            have e1 : hs[j]'(by rw [HHL.out]; exact hjl) = .slice YA X[j].length YC := (List.getElem?_eq_some_iff.1 y0).2
            rw [e1] at e0
            have e0 := (HX.out.cell hvb).trans e0
            have hq := contR_at (x := x) hjl
            have HQ := Lib.hid hq
            have HLS : Hid (∀ V, Ext wr V → Calls Tryz.prog 40 #[.slice YA X[j].length YC, .slice RA x.length RC] V fun e w' => e = .returned (.bool (decide (RL.cmpR X[j] x < 0))) ∧ Ext V w') := fun V hv => by
              have hbw : Below w.heap.size w V := HBW.out.trans (((HX.out.trans hv).below).mono HBW.out.size)
              exact r08Less_any YA RA YC RC X[j] x V (Sl.more (Sl.below hy hbw HBL.out) (Nat.le_trans HBL.out hbw.size)) (Sl.more (Sl.below HROW.out hbw HBL.out) (Nat.le_trans HBL.out hbw.size)) (HXL.out _ (List.getElem_mem hjl)) HRL.out
            have p0 : (0 : Int) ≤ (j : Int) := by omega
            have p1 : (j : Int) < (X.length : Int) := by omega
            have p2 : vb < wr.heap.size := by omega
            have p3 : ab < wr.heap.size := by omega
            have p4 : g < wr.heap.size := by omega
            have p5 : decide ((j : Int) < (X.length : Int)) = true := decide_eq_true p1
            clear hq hy y0 e1
            generalize X[j] = a at e0 HQ HLS
            refine wp_region_held_drew (S := (fun w' => w'.cell? ⟨g, 1, none⟩ = some (.slice (some ⟨ab, ao, none⟩) Fs.length FC) ∧ w'.cell? ⟨ab, ao + k * 2 + 1, none⟩ = some (.slice RA x.length RC) ∧ w'.cell? ⟨vb, vo + j, none⟩ = some (.slice YA a.length YC))) (by kernel_rfl) ⟨c0, d1, e0⟩ (fun hHeld => ?_)
            refine takeOp (i := 0) (v := ?_) (some 24) rfl rfl (by kernel_rfl) (by kernel_rfl) (by kernel_rfl) (fun _ _ _ h => h) (Or.inl ⟨by rfl, ?_⟩) (by assumption) ?_
            rotate_left 1
            · (intro w0 hSw; (try dsimp only at hSw); go_simp; try (with_reducible rfl))
            try simp only [Act.put, List.setIfInBounds_toArray, List.set_cons_succ, List.set_cons_zero]
            refine takeOp (i := 1) (v := ?_) (some 25) rfl rfl (by kernel_rfl) (by kernel_rfl) (by kernel_rfl) (fun _ _ _ h => h) (Or.inl ⟨by rfl, ?_⟩) (by assumption) ?_
            rotate_left 1
            · (intro w0 hSw; (try dsimp only at hSw); go_simp; try (with_reducible rfl))
            try simp only [Act.put, List.setIfInBounds_toArray, List.set_cons_succ, List.set_cons_zero]
            refine takeOp (i := 2) (v := ?_) (some 26) rfl rfl (by kernel_rfl) (by kernel_rfl) (by kernel_rfl) (fun _ _ _ h => h) (Or.inl ⟨by rfl, ?_⟩) (by assumption) ?_
            rotate_left 1
            · (intro w0 hSw; (try dsimp only at hSw); go_simp; try (with_reducible rfl))
            try simp only [Act.put, List.setIfInBounds_toArray, List.set_cons_succ, List.set_cons_zero]
            refine takeOp (i := 3) (v := ?_) (some 27) rfl rfl (by kernel_rfl) (by kernel_rfl) (by kernel_rfl) (fun _ _ _ h => h) (Or.inl ⟨by rfl, ?_⟩) (by assumption) ?_
            rotate_left 1
            · (intro w0 hSw; (try dsimp only at hSw); go_simp; try (with_reducible rfl))
            try simp only [Act.put, List.setIfInBounds_toArray, List.set_cons_succ, List.set_cons_zero]
            refine takeOp (i := 4) (v := ?_) (some 28) rfl rfl (by kernel_rfl) (by kernel_rfl) (by kernel_rfl) (fun _ _ _ h => h) (Or.inl ⟨by rfl, ?_⟩) (by assumption) ?_
            rotate_left 1
            · (intro w0 hSw; (try dsimp only at hSw); go_simp; try (with_reducible rfl))
            try simp only [Act.put, List.setIfInBounds_toArray, List.set_cons_succ, List.set_cons_zero]
            refine takeOp (i := 5) (v := ?_) (some 29) rfl rfl (by kernel_rfl) (by kernel_rfl) (by kernel_rfl) (fun _ _ _ h => h) (Or.inl ⟨by rfl, ?_⟩) (by assumption) ?_
            rotate_left 1
            · (intro w0 hSw; (try dsimp only at hSw); go_simp; try (with_reducible rfl))
            try simp only [Act.put, List.setIfInBounds_toArray, List.set_cons_succ, List.set_cons_zero]
            refine takeOp (i := 6) (v := ?_) (some 30) rfl rfl (by kernel_rfl) (by kernel_rfl) (by kernel_rfl) (fun _ _ _ h => h) (Or.inl ⟨by rfl, ?_⟩) (by assumption) ?_
            rotate_left 1
            · (intro w0 hSw; (try dsimp only at hSw); go_simp; try (with_reducible rfl))
            try simp only [Act.put, List.setIfInBounds_toArray, List.set_cons_succ, List.set_cons_zero]
            refine takeOp (i := 7) (v := ?_) (some 31) rfl rfl (by kernel_rfl) (by kernel_rfl) (by kernel_rfl) (fun _ _ _ h => h) (Or.inl ⟨by rfl, ?_⟩) (by assumption) ?_
            rotate_left 1
            · (intro w0 hSw; (try dsimp only at hSw); go_simp; try (with_reducible rfl))
            try simp only [Act.put, List.setIfInBounds_toArray, List.set_cons_succ, List.set_cons_zero]
            refine takeOp (i := 8) (v := ?_) (some 32) rfl rfl (by kernel_rfl) (by kernel_rfl) (by kernel_rfl) (fun _ _ _ h => h) (Or.inl ⟨by rfl, ?_⟩) (by assumption) ?_
            rotate_left 1
            · (intro w0 hSw; (try dsimp only at hSw); go_simp; try (with_reducible rfl))
            try simp only [Act.put, List.setIfInBounds_toArray, List.set_cons_succ, List.set_cons_zero]
            refine takeOp (i := 9) (v := ?_) (some 33) rfl rfl (by kernel_rfl) (by kernel_rfl) (by kernel_rfl) (fun _ _ _ h => h) (Or.inl ⟨by rfl, ?_⟩) (by assumption) ?_
            rotate_left 1
            · (intro w0 hSw; (try dsimp only at hSw); go_simp; try (with_reducible rfl))
            try simp only [Act.put, List.setIfInBounds_toArray, List.set_cons_succ, List.set_cons_zero]
            refine takeOp (i := 10) (v := ?_) (some 34) rfl rfl (by kernel_rfl) (by kernel_rfl) (by kernel_rfl) (fun _ _ _ h => h) (Or.inl ⟨by rfl, ?_⟩) (by assumption) ?_
            rotate_left 1
            · (intro w0 hSw; (try dsimp only at hSw); go_simp; try (with_reducible rfl))
            try simp only [Act.put, List.setIfInBounds_toArray, List.set_cons_succ, List.set_cons_zero]
            refine takeOp (i := 11) (v := ?_) (some 35) rfl rfl (by kernel_rfl) (by kernel_rfl) (by kernel_rfl) (fun _ _ _ h => h) (Or.inl ⟨by rfl, ?_⟩) (by assumption) ?_
            rotate_left 1
            · (intro w0 hSw; (try dsimp only at hSw); go_simp; try (with_reducible rfl))
            try simp only [Act.put, List.setIfInBounds_toArray, List.set_cons_succ, List.set_cons_zero]
            refine takeOp (i := 12) (v := ?_) (some 36) rfl rfl (by kernel_rfl) (by kernel_rfl) (by kernel_rfl) (fun _ _ _ h => h) (Or.inl ⟨by rfl, ?_⟩) (by assumption) ?_
            rotate_left 1
            · (intro w0 hSw; (try dsimp only at hSw); go_simp; try (with_reducible rfl))
            try simp only [Act.put, List.setIfInBounds_toArray, List.set_cons_succ, List.set_cons_zero]
            refine takeOp (i := 13) (v := ?_) (some 37) rfl rfl (by kernel_rfl) (by kernel_rfl) (by kernel_rfl) (fun _ _ _ h => h) (Or.inl ⟨by rfl, ?_⟩) (by assumption) ?_
            rotate_left 1
            · (intro w0 hSw; (try dsimp only at hSw); go_simp; try (with_reducible rfl))
            try simp only [Act.put, List.setIfInBounds_toArray, List.set_cons_succ, List.set_cons_zero]
            refine takeOp (i := 14) (v := ?_) (some 38) rfl rfl (by kernel_rfl) (by kernel_rfl) (by kernel_rfl) (fun _ _ _ h => h) (Or.inl ⟨by rfl, ?_⟩) (by assumption) ?_
            rotate_left 1
            · (intro w0 hSw; (try dsimp only at hSw); go_simp; try (with_reducible rfl))
            try simp only [Act.put, List.setIfInBounds_toArray, List.set_cons_succ, List.set_cons_zero]
            refine wpAnyH_ready (rs := [15]) (by kernel_rfl) (by simp) ?_
            refine AllReadyH.cons rfl (fun K hK => ?_) AllReadyH.nil
            go_simp
            refine (HLS.out wr.drew (Ext.refl _).drew).mono ?_
            rintro e V ⟨rfl, hxV⟩
            have hxV : Ext wr V := (Ext.refl wr).drew.trans hxV
            have HKK : Hid (V.cell? ⟨g, 1, none⟩ = some (.slice (some ⟨ab, ao, none⟩) Fs.length FC) ∧ V.cell? ⟨ab, ao + k * 2 + 1, none⟩ = some (.slice RA x.length RC) ∧ V.cell? ⟨vb, vo + j, none⟩ = some (.slice YA a.length YC)) := ⟨(hxV.cell p4).trans c0, (hxV.cell p3).trans d1, (hxV.cell p2).trans e0⟩
            have HXV := Lib.hid hxV
            clear hxV
            go_wp2_with fail
            refine hK.out _ _ HKK.out (fun hHeld => ?_)
            clear hK K
            try simp only [Act.put, List.setIfInBounds_toArray, List.set_cons_succ, List.set_cons_zero]
            refine takeOp (i := 16) (v := ?_) (some 40) rfl rfl (by kernel_rfl) (by kernel_rfl) (by kernel_rfl) (fun _ _ _ h => h) (Or.inl ⟨by rfl, ?_⟩) (by assumption) ?_
            rotate_left 1
            · (intro w0 hSw; (try dsimp only at hSw); go_simp; try (with_reducible rfl))
            try simp only [Act.put, List.setIfInBounds_toArray, List.set_cons_succ, List.set_cons_zero]
            refine wpAnyH_done (by kernel_rfl) ?_ _
            go_wp2_with fail
            go_meet
            case rel => exact ⟨by rw [HQ.out], HXV.out⟩
          · have HQ := Lib.hid (contR_end (x := x) hjl)
            have p1 : ¬ (j : Int) < (X.length : Int) := by omega
            have p5 : decide ((j : Int) < (X.length : Int)) = false := decide_eq_false p1
            refine wp_region_held_drew (S := (fun _ => True)) (by kernel_rfl) trivial (fun hHeld => ?_)
            refine takeOp (i := 0) (v := ?_) (some 24) rfl rfl (by kernel_rfl) (by kernel_rfl) (by kernel_rfl) (fun _ _ _ h => h) (Or.inl ⟨by rfl, ?_⟩) (by assumption) ?_
            rotate_left 1
            · (intro w0 hSw; (try dsimp only at hSw); go_simp; try (with_reducible rfl))
            try simp only [Act.put, List.setIfInBounds_toArray, List.set_cons_succ, List.set_cons_zero]
            refine takeOp (i := 1) (v := ?_) (some 25) rfl rfl (by kernel_rfl) (by kernel_rfl) (by kernel_rfl) (fun _ _ _ h => h) (Or.inl ⟨by rfl, ?_⟩) (by assumption) ?_
            rotate_left 1
            · (intro w0 hSw; (try dsimp only at hSw); go_simp; try (with_reducible rfl))
            try simp only [Act.put, List.setIfInBounds_toArray, List.set_cons_succ, List.set_cons_zero]
            refine takeOp (i := 2) (v := ?_) (some 26) rfl rfl (by kernel_rfl) (by kernel_rfl) (by kernel_rfl) (fun _ _ _ h => h) (Or.inl ⟨by rfl, ?_⟩) (by assumption) ?_
            rotate_left 1
            · (intro w0 hSw; (try dsimp only at hSw); go_simp; try (with_reducible rfl))
            try simp only [Act.put, List.setIfInBounds_toArray, List.set_cons_succ, List.set_cons_zero]
            refine takeOp (i := 3) (v := ?_) (some 27) rfl rfl (by kernel_rfl) (by kernel_rfl) (by kernel_rfl) (fun _ _ _ h => h) (Or.inl ⟨by rfl, ?_⟩) (by assumption) ?_
            rotate_left 1
            · (intro w0 hSw; (try dsimp only at hSw); go_simp; try (with_reducible rfl))
            try simp only [Act.put, List.setIfInBounds_toArray, List.set_cons_succ, List.set_cons_zero]
            refine takeOp (i := 4) (v := ?_) (some 28) rfl rfl (by kernel_rfl) (by kernel_rfl) (by kernel_rfl) (fun _ _ _ h => h) (Or.inl ⟨by rfl, ?_⟩) (by assumption) ?_
            rotate_left 1
            · (intro w0 hSw; (try dsimp only at hSw); go_simp; try (with_reducible rfl))
            try simp only [Act.put, List.setIfInBounds_toArray, List.set_cons_succ, List.set_cons_zero]
            refine takeOp (i := 5) (v := undef) (some 29) rfl rfl (by kernel_rfl) (by kernel_rfl) (by kernel_rfl) (fun _ _ _ h => h) (Or.inr ⟨by rfl, rfl⟩) (by assumption) ?_
            try simp only [Act.put, List.setIfInBounds_toArray, List.set_cons_succ, List.set_cons_zero]
            refine takeOp (i := 6) (v := undef) (some 30) rfl rfl (by kernel_rfl) (by kernel_rfl) (by kernel_rfl) (fun _ _ _ h => h) (Or.inr ⟨by rfl, rfl⟩) (by assumption) ?_
            try simp only [Act.put, List.setIfInBounds_toArray, List.set_cons_succ, List.set_cons_zero]
            refine takeOp (i := 7) (v := undef) (some 31) rfl rfl (by kernel_rfl) (by kernel_rfl) (by kernel_rfl) (fun _ _ _ h => h) (Or.inr ⟨by rfl, rfl⟩) (by assumption) ?_
            try simp only [Act.put, List.setIfInBounds_toArray, List.set_cons_succ, List.set_cons_zero]
            refine takeOp (i := 8) (v := undef) (some 32) rfl rfl (by kernel_rfl) (by kernel_rfl) (by kernel_rfl) (fun _ _ _ h => h) (Or.inr ⟨by rfl, rfl⟩) (by assumption) ?_
            try simp only [Act.put, List.setIfInBounds_toArray, List.set_cons_succ, List.set_cons_zero]
            refine takeOp (i := 9) (v := undef) (some 33) rfl rfl (by kernel_rfl) (by kernel_rfl) (by kernel_rfl) (fun _ _ _ h => h) (Or.inr ⟨by rfl, rfl⟩) (by assumption) ?_
            try simp only [Act.put, List.setIfInBounds_toArray, List.set_cons_succ, List.set_cons_zero]
            refine takeOp (i := 10) (v := undef) (some 34) rfl rfl (by kernel_rfl) (by kernel_rfl) (by kernel_rfl) (fun _ _ _ h => h) (Or.inr ⟨by rfl, rfl⟩) (by assumption) ?_
            try simp only [Act.put, List.setIfInBounds_toArray, List.set_cons_succ, List.set_cons_zero]
            refine takeOp (i := 11) (v := undef) (some 35) rfl rfl (by kernel_rfl) (by kernel_rfl) (by kernel_rfl) (fun _ _ _ h => h) (Or.inr ⟨by rfl, rfl⟩) (by assumption) ?_
            try simp only [Act.put, List.setIfInBounds_toArray, List.set_cons_succ, List.set_cons_zero]
            refine takeOp (i := 12) (v := undef) (some 36) rfl rfl (by kernel_rfl) (by kernel_rfl) (by kernel_rfl) (fun _ _ _ h => h) (Or.inr ⟨by rfl, rfl⟩) (by assumption) ?_
            try simp only [Act.put, List.setIfInBounds_toArray, List.set_cons_succ, List.set_cons_zero]
            refine takeOp (i := 13) (v := undef) (some 37) rfl rfl (by kernel_rfl) (by kernel_rfl) (by kernel_rfl) (fun _ _ _ h => h) (Or.inr ⟨by rfl, rfl⟩) (by assumption) ?_
            try simp only [Act.put, List.setIfInBounds_toArray, List.set_cons_succ, List.set_cons_zero]
            refine takeOp (i := 14) (v := undef) (some 38) rfl rfl (by kernel_rfl) (by kernel_rfl) (by kernel_rfl) (fun _ _ _ h => h) (Or.inr ⟨by rfl, rfl⟩) (by assumption) ?_
            try simp only [Act.put, List.setIfInBounds_toArray, List.set_cons_succ, List.set_cons_zero]
            refine takeOp (i := 15) (v := undef) (some 39) rfl rfl (by kernel_rfl) (by kernel_rfl) (by kernel_rfl) (fun _ _ _ h => h) (Or.inr ⟨by rfl, rfl⟩) (by assumption) ?_
            try simp only [Act.put, List.setIfInBounds_toArray, List.set_cons_succ, List.set_cons_zero]
            refine takeOp (i := 16) (v := ?_) (some 40) rfl rfl (by kernel_rfl) (by kernel_rfl) (by kernel_rfl) (fun _ _ _ h => h) (Or.inl ⟨by rfl, ?_⟩) (by assumption) ?_
            rotate_left 1
            · (intro w0 hSw; (try dsimp only at hSw); go_simp; try (with_reducible rfl))
            try simp only [Act.put, List.setIfInBounds_toArray, List.set_cons_succ, List.set_cons_zero]
            refine wpAnyH_done (by kernel_rfl) ?_ _
            go_wp2_with fail
            go_meet
            case rel => exact ⟨by rw [HQ.out], (Ext.refl _).drew⟩
        case rest =>
        obtain ⟨rfl, hx1⟩ := hcut
        generalize wc = w1 at *
        have HX1 := Lib.hid (HX.out.trans hx1)
        cases hcn : contR X x j with
        | true =>
          have hjl : j < X.length := by
            rcases Nat.lt_or_ge j X.length with h | h
            · exact h
            · rw [contR_end (by omega)] at hcn; cases hcn
          have HAJ : Hid (RL.cmpR X[j] x < 0) := by
            rw [contR_at hjl] at hcn
            exact Lib.hid (of_decide_eq_true hcn)
          have hw2 : IntKind.i64.wrap ((j : Int) + 1) = ((j + 1 : Nat) : Int) := by rw [IntWalk.i64_in _ (by omega)]; omega
          clear hcn
          go_wp2_with fail
          go_roundw
          case rel => exact ⟨j + 1, hjl, by go_num, fun t ht htj => by
            rcases Nat.lt_or_ge t j with h | h
            · exact HALL.out t ht h
            · obtain rfl : t = j := by omega
              exact HAJ.out, HX1.out⟩
          case measure => simp [intOf]; omega
        | false =>
          have HNN : Hid (RowsIn (Fs.take (k + 1)) sn (X.take j ++ [x] ++ X.drop j)) := by show RowsIn _ _ _; rw [HTK.out]; exact HIN.out.ins HNI.out HALL.out hcn
          have hz1 := hx1.size
          have hsh := slHead VA X.length VC j (by omega)
          have hst := slTail VA X.length VC j hj
          obtain ⟨TA, hTA⟩ : ∃ TA, TA = tailA VA j VC := ⟨_, rfl⟩
          rw [← hTA] at hst
          have hsl1 := Sl.more (Sl.ext HSL.out (Nat.le_refl _) HX1.out) HX1.out.size
          have HHD : Hid (Sl w1.heap.size w1 VA (hs.take j)) := hsl1.takeN j
          have HTL : Hid (Sl w1.heap.size w1 TA (hs.drop j)) := by show Sl _ _ _ _; rw [hTA]; exact hsl1.tailN (by rw [HHL.out]; exact hvc) j
          have HB1 := Lib.hid (HBR.out.trans (HX1.out.below.mono (by omega)))
          have HL1 : Hid ((hs.take j).length = j * 1) := by show _ = _; rw [List.length_take, HHL.out]; omega
          have HL2 : Hid ((hs.drop j).length = (X.length - j) * 1) := by show _ = _; rw [List.length_drop, HHL.out]; omega
          have HCA : Hid (RowCs B w (X.take j ++ [x] ++ X.drop j) (hs.take j ++ [.slice RA x.length RC] ++ hs.drop j)) := ((HCS.out.take j).append (RowCs.one1 HROW.out)).append (HCS.out.drop j)
          have HC1 : Hid (∀ u ∈ hs.take j, u.oneCell' = true) := fun u hu => HCS.out.one u (List.mem_of_mem_take hu)
          have HC2 : Hid (∀ u ∈ hs.drop j, u.oneCell' = true) := fun u hu => HCS.out.one u (List.mem_of_mem_drop hu)
          have HXM : Hid (∀ y ∈ X.take j ++ [x] ++ X.drop j, y.length ≤ 1000000) := fun y hy => by
            rcases List.mem_append.1 hy with hy | hy
            · rcases List.mem_append.1 hy with hy | hy
              · exact HXL.out y (List.mem_of_mem_take hy)
              · rw [List.mem_singleton.1 hy]; exact HRL.out
            · exact HXL.out y (List.mem_of_mem_drop hy)
          generalize hs.take j = h1s at *
          generalize hs.drop j = h2s at *
          have hgz : g + 1 ≤ w1.heap.size := by omega
          clear hTA hsl1 hcn hx1 HALL HSL HX HX1
          have HE0 := Lib.hid (own_emptyF w1 (g + 1) 42 1 hgz)
          have HX2 : Hid (Ext w1 (w1.alloc (.cells #[] 42))) := (Ext.refl w1).alloc _
          have HB2 : Hid (Below (g + 1) W0 (w1.alloc (.cells #[] 42))) := HB1.out.trans (HX2.out.below.mono hgz)
          have HS2 := Lib.hid (Sl.more (Sl.ext HHD.out (Nat.le_refl _) HX2.out) HX2.out.size)
          have HTK2 : Hid (∀ V, Below w1.heap.size w1 V → Sl V.heap.size V TA h2s) := fun V hb => Sl.more (Sl.below HTL.out hb (Nat.le_refl _)) hb.size
          clear c0 d1 d0 hab2 z0
          go_wp2_with (first
            | (at_builtin; refine appXRowN rfl (.tmp 43) (.tmp 46) rfl (g + 1) (.slice (some ⟨w1.heap.size, 0, none⟩) 0 0) 0 [] rfl HE0.out VA j VC h1s rfl HL1.out HS2.out HC1.out (by omega) (by simp; omega) ?_
               intro v2 w2 hown2 hg2 hat2
               have hb2 := HB2.out.grown hg2 (by simp; omega) (fun q hq => own_base HE0.out hq)
               have hbn : Below w1.heap.size w1 w2 := HX2.out.below.grown hg2 (by simp) (fun q hq => by simp [Value.ownBlock] at hq; omega)
               have HBN := Lib.hid hbn
               obtain ⟨c0, d1, z0, hab2⟩ := HDK.out w2 hb2
               have hgz2 : g + 1 ≤ w2.heap.size := z0
               have HO2 := Lib.hid (hown2.alloc (.cells #[.slice RA x.length RC] 42))
               have HB2' := Lib.hid (hb2.alloc hgz2 (.cells #[.slice RA x.length RC] 42))
               have HV2 : Hid (∀ q, v2.ownBlock = some q → w1.heap.size ≤ q) := fun q hq => by
                 rcases hat2 q hq with h | h
                 · simp [Value.ownBlock] at h; omega
                 · rw [h]; simp
               have HS3 : Hid (Sl (w2.alloc (.cells #[.slice RA x.length RC] 42)).heap.size (w2.alloc (.cells #[.slice RA x.length RC] 42)) (some ⟨w2.heap.size, 0, none⟩) [.slice RA x.length RC]) := (Row.new w2 42 [.slice RA x.length RC]).sl
               have HBN2 : Hid (Below w1.heap.size w1 (w2.alloc (.cells #[.slice RA x.length RC] 42))) := hbn.alloc hbn.size _
               clear hown2 hg2 hat2 hb2 hbn)
            | (at_builtin; refine appXRowN rfl (.tmp 48) (.tmp 55) rfl (g + 1) v2 (0 + j) ([] ++ h1s) rfl HO2.out (some ⟨w2.heap.size, 0, none⟩) 1 1 [.slice RA x.length RC] rfl rfl HS3.out (fun u hu => by rw [List.mem_singleton.1 hu]; rfl) (by omega) (by simp; omega) ?_
               intro v3 w3 hown3 hg3 hat3
               have HO3 := Lib.hid hown3
               have hb3 := HB2'.out.grown hg3 (by simp; omega) (fun q hq => own_base HO2.out hq)
               have hbn3 := HBN2.out.grown hg3 (by have := HBN.out.size; simp; omega) HV2.out
               have HB3 := Lib.hid hb3
               have HBN3 := Lib.hid hbn3
               have hgz3 : g + 1 ≤ w3.heap.size := (HDK.out w3 hb3).2.2.1
               clear hown3 hg3 hb3 hbn3 hat3)
            | (at_builtin; refine appXRowN rfl (.tmp 57) (.tmp 60) rfl (g + 1) v3 (0 + j + 1) ([] ++ h1s ++ [.slice RA x.length RC]) rfl HO3.out TA (X.length - j) (VC - j) h2s rfl HL2.out (HTK2.out w3 HBN3.out) HC2.out (by omega) hgz3 ?_
               intro v4 w4 hown4 hg4 hat4
               have HO4 := Lib.hid hown4
               have HB4 := Lib.hid (HB3.out.grown hg4 hgz3 (fun q hq => own_base HO3.out hq))
               clear hown4 hg4 hat4)
            | fail)
          have HO5 : Hid (w4.ownsRow (g + 1) 42 1 v4 (X.take j ++ [x] ++ X.drop j).length (h1s ++ [.slice RA x.length RC] ++ h2s)) := by
            have h := HO4.out
            rw [List.nil_append, show 0 + j + 1 + (X.length - j) = (X.take j ++ [x] ++ X.drop j).length by simp; omega] at h
            exact h
          go_roundw
          case rel => exact ⟨k + 1, _, _, HKL.out, by go_num, HO5.out, HCA.out, HNN.out, HXM.out, by simp; omega, HB4.out⟩
          case measure => have := HKL.out; simp [intOf]; omega
    · obtain rfl : k = Fs.length := by omega
      rw [List.take_length] at HIN
      have HEQ := Lib.hid (HIN.out.eq HREL.out)
      have g2 : ¬ (Fs.length : Int) < (Fs.length : Int) := by omega
      go_wp2_with fail
      go_ret
      have hbw : Below w.heap.size w wo := HB0.out.trans (HBR.out.mono (by have := HG.out; omega))
      have HCS2 : Hid (RowCs B w (F nm) hs) := by show RowCs _ _ _ _; rw [← HEQ.out]; exact HCS.out
      have HO2 : Hid (wo.ownsRow (w.heap.size + 1) 42 1 (.slice VA (F nm).length VC) (F nm).length hs) := by show World.ownsRow _ _ _ _ _ _ _; rw [← HEQ.out, ← HG.out]; exact HO.out
      rw [HEQ.out]
      exact ⟨VA, VC, rfl, hs, HCS2.out, HO2.out, hbw⟩
theorem r08Rows_any (sv : Value) (FA : Option Addr) (FC : Nat) (F : Cont) (Fs : List Fact) (nm : ByteArray) (w : World) (hR : RelF F Fs) (hF : FactsM w.heap.size w FA Fs) (hFl : Fs.length ≤ 1000) (hFr : ∀ f ∈ Fs, f.2.length ≤ 1000000) :
    Calls Tryz.prog 15 #[.agg #[sv, .slice FA Fs.length FC], .string nm] w fun e w' => ∃ A C, ∃ hs : List Value, e = .returned (.slice A (F nm).length C) ∧ RowCs w'.heap.size w' (F nm) hs ∧ Sl w'.heap.size w' A hs ∧ Below w.heap.size w w' := by
  refine (r08Rows_at w.heap.size sv FA FC F Fs nm w hR (Nat.le_refl _) hF hFl hFr).mono ?_
  rintro e w' ⟨A, C, he, hs, hc, ho, hb⟩
  obtain ⟨A', C', e', -, hsl⟩ := Sl.of_own_n ho
  injection e' with e1 e2 e3
  subst e1
  exact ⟨A, C, hs, he, hc.up hb, hsl, hb⟩
end
section
open Go.RowKit Go.Sort Go.ChangeMaps Go.WideShapes

set_option maxHeartbeats 2000000 in
theorem l08kinds_any (A B : Option Addr) (CA CB : Nat) (xs ys : List Int) (w : World) (ha : SlI .i64 w.heap.size w A xs) (hb : SlI .i64 w.heap.size w B ys) (hal : xs.length ≤ 1000000) (_hbl : ys.length ≤ 1000000) :
    Calls Tryz.prog 66 #[.slice A xs.length CA, .slice B ys.length CB] w fun e w' => e = .returned (.bool (decide (xs = ys))) ∧ Ext w w' := by
  have HA := Lib.hid ha
  have HB := Lib.hid hb
  clear ha hb
  by_cases hl : xs.length = ys.length
  rotate_left
  · have hne : ((xs.length : Int) != (ys.length : Int)) = true := by rw [bne_iff_ne]; omega
    have HV : Hid (decide (xs = ys) = false) := decide_eq_false (fun e => hl (by rw [e]))
    clear hl
    go_enter Tryz.func66, Tryz.ntmps66
    go_wp2_with fail
    go_ret
    exact ⟨ret_bool HV.out.symm, Ext.refl _⟩
  have hne : ((xs.length : Int) != (ys.length : Int)) = false := by rw [bne_eq_false_iff_eq]; omega
  have HL := Lib.hid hl
  clear hl
  go_enter Tryz.func66, Tryz.ntmps66
  go_wp2_with fail
  go_loopw [5] (fun c wx => ∃ k : Nat, k ≤ xs.length ∧ c = .int .i64 k ∧ xs.take k = ys.take k ∧ Ext w wx) (fun c _ => xs.length - (intOf c).toNat)
  case atStart => exact ⟨0, Nat.zero_le _, rfl, rfl, Ext.refl _⟩
  case round =>
    obtain ⟨k, hk, rfl, htk, hx⟩ := hrel
    have HTK := Lib.hid htk
    have HX := Lib.hid hx
    have hzz := hx.size
    clear htk hx
    by_cases hkl : k < xs.length
    · have hkb : k < ys.length := by have := HL.out; omega
      obtain ⟨ab, ao, rfl, hab, c0⟩ := HA.out.at_ (k := k) (by rw [List.length_map]; exact hkl)
      obtain ⟨bb, bo, rfl, hbb, d0⟩ := HB.out.at_ (k := k) (by rw [List.length_map]; exact hkb)
      rw [List.getElem_map] at c0 d0
      have c0 := (HX.out.cell hab).trans c0
      have d0 := (HX.out.cell hbb).trans d0
      have HT1 : Hid (xs.take (k + 1) = xs.take k ++ [xs[k]]) := List.take_succ_eq_append_getElem hkl
      have HT2 : Hid (ys.take (k + 1) = ys.take k ++ [ys[k]]) := List.take_succ_eq_append_getElem hkb
      have HNE : Hid (xs[k] ≠ ys[k] → xs ≠ ys) := fun h e => h (by subst e; rfl)
      have g1 : (0 : Int) ≤ (k : Int) := by omega
      have g2 : (k : Int) < (xs.length : Int) := by omega
      have g3 : (k : Int) < (ys.length : Int) := by omega
      have z1 : ab < wr.heap.size := by omega
      have z2 : bb < wr.heap.size := by omega
      have hw1 : IntKind.i64.wrap ((k : Int) + 1) = ((k + 1 : Nat) : Int) := by rw [IntWalk.i64_in _ (by omega)]; omega
      generalize xs[k] = a at *
      generalize ys[k] = b at *
      clear hkb
      by_cases hab : a = b
      · have hq : (a != b) = false := by rw [bne_eq_false_iff_eq]; exact hab
        have HN : Hid (xs.take (k + 1) = ys.take (k + 1)) := by show _ = _; rw [HT1.out, HT2.out, HTK.out, hab]
        clear hab
        go_wp2_with fail
        go_quiet (fail)
        go_wp2_with fail
        go_roundw
        case rel => exact ⟨k + 1, hkl, by go_num, HN.out, HX.out.drewN _⟩
        case measure => simp [intOf]; omega
      · have hq : (a != b) = true := by rw [bne_iff_ne]; exact hab
        have HN : Hid (decide (xs = ys) = false) := decide_eq_false (HNE.out hab)
        clear hab
        go_wp2_with fail
        go_quiet (fail)
        go_wp2_with fail
        go_ret
        exact ⟨ret_bool HN.out.symm, HX.out.drewN _⟩
    · obtain rfl : k = xs.length := by omega
      have HN : Hid (decide (xs = ys) = true) := decide_eq_true (by
        have h := HTK.out
        rw [List.take_length, HL.out, List.take_length] at h
        exact h)
      have g2 : ¬ (xs.length : Int) < (xs.length : Int) := by omega
      go_wp2_with fail
      go_ret
      exact ⟨ret_bool HN.out.symm, HX.out⟩

set_option maxHeartbeats 4000000 in
theorem r08Check_any (SA : Option Addr) (SC : Nat) (S : Sch) (w : World) (hS : SchsM w.heap.size w SA S) (hSo : SchsOk S) (hSl : S.length ≤ 1000) :
    Calls Tryz.prog 32 #[.slice SA S.length SC] w fun e w' => e = .returned (.int .i64 (errS S)) ∧ Ext w w' := by
  have HS := Lib.hid hS
  have HSO := Lib.hid hSo
  clear hS hSo
  by_cases h16 : 16 < S.length
  · have hd : decide ((16 : Int) < (S.length : Int)) = true := decide_eq_true (by omega)
    have HV : Hid (errS S = 12) := by show _ = _; unfold errS; rw [if_pos h16]
    clear h16
    go_enter Tryz.func32, Tryz.ntmps32
    go_wp2_with fail
    go_ret
    exact ⟨ret_int HV.out.symm, Ext.refl _⟩
  have hd : decide ((16 : Int) < (S.length : Int)) = false := decide_eq_false (by omega)
  have HE : Hid (errS S = errSchs [] S) := by show _ = _; unfold errS; rw [if_neg h16]
  clear h16
  go_enter Tryz.func32, Tryz.ntmps32
  go_wp2_with fail
  go_loopw [3] (fun c wx => ∃ i : Nat, i ≤ S.length ∧ c = .int .i64 i ∧ errSchs ((S.take i).map Prod.fst) (S.drop i) = errSchs [] S ∧ Ext w wx) (fun c _ => S.length - (intOf c).toNat)
  case atStart => exact ⟨0, Nat.zero_le _, rfl, rfl, Ext.refl _⟩
  case round =>
    obtain ⟨i, hi, rfl, herr, hx⟩ := hrel
    obtain ⟨wo, hwo⟩ : ∃ wo, wo = wr := ⟨_, rfl⟩
    subst hwo
    have HERR := Lib.hid herr
    have HX := Lib.hid hx
    have hzz := hx.size
    clear herr hx
    by_cases hil : i < S.length
    rotate_left
    · obtain rfl : i = S.length := by omega
      have HF : Hid (errS S = 0) := by
        have h := HERR.out
        rw [List.drop_length] at h
        show _ = _
        rw [HE.out, ← h]
        rfl
      have g2 : ¬ (S.length : Int) < (S.length : Int) := by omega
      go_wp2_with fail
      go_ret
      exact ⟨ret_int HF.out.symm, HX.out⟩
    obtain ⟨ab, ao, rfl, hab, hac⟩ := HS.out (by intro h0; rw [h0] at hil; simp at hil)
    have HAC := Lib.hid hac
    obtain ⟨KA, KC, c0, c1, sk⟩ := hac i hil
    have c0 := (HX.out.cell hab).trans c0
    have c1 := (HX.out.cell hab).trans c1
    have hab2 := Nat.lt_of_lt_of_le hab hzz
    have HOK1 := Lib.hid (HSO.out _ (List.getElem_mem hil))
    have HAT := Lib.hid (errSchs_at hil)
    have g1 : (0 : Int) ≤ (i : Int) := by omega
    have g2 : (i : Int) < (S.length : Int) := by omega
    have hw1 : IntKind.i64.wrap ((i : Int) + 1) = ((i + 1 : Nat) : Int) := by rw [IntWalk.i64_in _ (by omega)]; omega
    have HSK := Lib.hid sk
    clear hac sk
    generalize S[i] = p at *
    obtain ⟨nm, ks⟩ := p
    have c0 : wo.cell? ⟨ab, ao + i * 2, none⟩ = some (.string nm) := c0
    have c1 : wo.cell? ⟨ab, ao + i * 2 + 1, none⟩ = some (.slice KA ks.length KC) := c1
    have HSK : Hid (SlI .i64 w.heap.size w KA ks) := HSK.out
    have HKL : Hid (ks.length ≤ 9223372036854775807) := HOK1.out.2
    have HBAD : Hid (∀ k, errSch ((S.take i).map Prod.fst) (nm, ks) = k → k ≠ 0 → errS S = k) := fun k hk h0 => by
      rw [HE.out, ← HERR.out, HAT.out, if_neg (by rw [hk]; exact h0), hk]
    have HGOOD : Hid (errSch ((S.take i).map Prod.fst) (nm, ks) = 0 → errSchs ((S.take (i + 1)).map Prod.fst) (S.drop (i + 1)) = errSchs [] S) := fun h0 => by
      rw [← HERR.out, HAT.out, if_pos h0]
    have HNM := Lib.hid (r08Name_any nm HOK1.out.1)
    clear HOK1 HERR HAT
    go_wp2_with fail
    refine (HNM.out _).mono ?_
    rintro e w' ⟨rfl, hw'⟩
    obtain rfl := hw'.symm
    cases hnf : nameF nm with
    | false =>
      have HB7 := Lib.hid (HBAD.out 7 (by unfold errSch; rw [if_pos hnf]) (by decide))
      clear hnf
      go_wp2_with fail
      go_ret
      exact ⟨ret_int HB7.out.symm, by first | exact HX.out | exact HX.out.drew⟩
    | true =>
    have HN7 := Lib.hid hnf
    clear hnf
    go_wp2_with fail
    go_loopw [4] (fun c wx => ∃ k : Nat, k ≤ i ∧ c = .int .i64 k ∧ (∀ t (ht : t < S.length), t < k → S[t].1 ≠ nm) ∧ Ext wo wx) (fun c _ => i - (intOf c).toNat)
    case atStart => exact ⟨0, Nat.zero_le _, rfl, fun t _ ht => absurd ht (Nat.not_lt_zero _), Ext.refl _⟩
    case round =>
      obtain ⟨k, hk, rfl, hall, hxk⟩ := hrel
      obtain ⟨w5, hw5⟩ : ∃ w5, w5 = wr := ⟨_, rfl⟩
      subst hw5
      have HALL := Lib.hid hall
      have HXK := Lib.hid hxk
      have hzk := hxk.size
      have c0 := (hxk.cell hab2).trans c0
      have c1 := (hxk.cell hab2).trans c1
      clear hall hxk
      by_cases hki : k < i
      · have hks : k < S.length := by omega
        obtain ⟨KA2, KC2, d0, -, -⟩ := HAC.out k hks
        have d0 := ((HX.out.trans HXK.out).cell hab).trans d0
        have HEK : Hid (S[k].1 = nm → memB nm ((S.take i).map Prod.fst) = true) := fun h => by
          rw [memB_iff]
          exact List.mem_map.2 ⟨S[k], List.mem_take_iff_getElem.2 ⟨k, by omega, rfl⟩, h⟩
        have HNX : Hid (S[k].1 ≠ nm → ∀ t (ht : t < S.length), t < k + 1 → S[t].1 ≠ nm) := fun h t ht htk => by
          rcases Nat.lt_or_ge t k with h1 | h1
          · exact HALL.out t ht h1
          · obtain rfl : t = k := by omega
            exact h
        have hse := strEq_str S[k].1 nm
        generalize S[k].1 = sn at *
        have p0 : (0 : Int) ≤ (k : Int) := by omega
        have p1 : (k : Int) < (S.length : Int) := by omega
        have p2 : (k : Int) < (i : Int) := by omega
        have p3 : ab < w5.heap.size := by omega
        have hw2 : IntKind.i64.wrap ((k : Int) + 1) = ((k + 1 : Nat) : Int) := by rw [IntWalk.i64_in _ (by omega)]; omega
        by_cases hsn : sn = nm
        · rw [decide_eq_true hsn] at hse
          have HB8 := Lib.hid (HBAD.out 8 (by unfold errSch; rw [if_neg (by rw [HN7.out]; decide), if_pos (HEK.out hsn)]) (by decide))
          clear hsn
          go_wp2_with fail
          go_quiet (fail)
          go_wp2_with fail
          go_ret
          exact ⟨ret_int HB8.out.symm, (HX.out.trans HXK.out).drewN _⟩
        · rw [decide_eq_false hsn] at hse
          have HN2 := Lib.hid (HNX.out hsn)
          clear hsn
          go_wp2_with fail
          go_quiet (fail)
          go_wp2_with fail
          go_roundw
          case rel => exact ⟨k + 1, hki, by go_num, HN2.out, HXK.out.drewN _⟩
          case measure => simp [intOf]; omega
      · obtain rfl : k = i := by omega
        have HM8 : Hid (memB nm ((S.take k).map Prod.fst) = false) := by
          show _ = _
          cases hm : memB nm ((S.take k).map Prod.fst) with
          | false => rfl
          | true =>
            obtain ⟨p, hp, e⟩ := List.mem_map.1 (memB_iff.1 hm)
            obtain ⟨t, ht, e2⟩ := List.mem_take_iff_getElem.1 hp
            exact absurd (by rw [e2]; exact e) (HALL.out t (by omega) (by omega))
        have p2 : ¬ (k : Int) < (k : Int) := by omega
        have z5 : ab < w5.heap.size := by omega
        have HX5 := Lib.hid (HX.out.trans HXK.out)
        clear hki HALL
        by_cases h6 : 6 < ks.length
        · have hd6 : decide ((6 : Int) < (ks.length : Int)) = true := decide_eq_true (by omega)
          have HB6 := Lib.hid (HBAD.out 6 (by unfold errSch; rw [if_neg (by rw [HN7.out]; decide), if_neg (by rw [HM8.out]; decide), if_pos h6]) (by decide))
          go_wp2_with fail
          go_ret
          exact ⟨ret_int HB6.out.symm, HX5.out⟩
        have hd6 : decide ((6 : Int) < (ks.length : Int)) = false := decide_eq_false (by omega)
        have H6 := Lib.hid h6
        go_wp2_with fail
        go_loopw [5] (fun c wx => ∃ j : Nat, j ≤ ks.length ∧ c = .int .i64 j ∧ (∀ t (h : t < ks.length), t < j → ks[t] = 1 ∨ ks[t] = 2) ∧ Ext w5 wx) (fun c _ => ks.length - (intOf c).toNat)
        case atStart => exact ⟨0, Nat.zero_le _, rfl, fun t _ ht => absurd ht (Nat.not_lt_zero _), Ext.refl _⟩
        case round =>
          obtain ⟨j, hj, rfl, hall, hxj⟩ := hrel
          have HALL := Lib.hid hall
          have HXJ := Lib.hid hxj
          have hzj := hxj.size
          have c1 := (hxj.cell z5).trans c1
          have z6 : ab < wr.heap.size := by omega
          clear hall hxj
          by_cases hjl : j < ks.length
          · obtain ⟨kb, ko, rfl, hkb, e0⟩ := HSK.out.at_ (k := j) (by rw [List.length_map]; exact hjl)
            rw [List.getElem_map] at e0
            have e0 := ((HX5.out.trans HXJ.out).cell hkb).trans e0
            have hkb2 : kb < wr.heap.size := by have := HX5.out.size; omega
            have p3 : (0 : Int) ≤ (j : Int) := by omega
            have p4 : (j : Int) < (ks.length : Int) := by omega
            have hw2 : IntKind.i64.wrap ((j : Int) + 1) = ((j + 1 : Nat) : Int) := by rw [IntWalk.i64_in _ (by omega)]; omega
            have HMEM : Hid (ks[j] ∈ ks) := List.getElem_mem hjl
            have HNX : Hid ((ks[j] = 1 ∨ ks[j] = 2) → ∀ t (h : t < ks.length), t < j + 1 → ks[t] = 1 ∨ ks[t] = 2) := fun hx t h ht => by
              rcases Nat.lt_or_ge t j with h1 | h1
              · exact HALL.out t h h1
              · obtain rfl : t = j := by omega
                exact hx
            generalize ks[j] = x at *
            by_cases hx1 : x = 1
            · have ne1 : (x != 1) = false := by rw [hx1]; rfl
              have HX7 := Lib.hid (HNX.out (.inl hx1))
              clear hx1 HNX
              go_wp2_with fail
              go_roundw
              case rel => exact ⟨j + 1, hjl, by go_num, HX7.out, HXJ.out⟩
              case measure => simp [intOf]; omega
            · have ne1 : (x != 1) = true := by simpa using hx1
              by_cases hx2 : x = 2
              · have ne2 : (x != 2) = false := by rw [hx2]; rfl
                have HX7 := Lib.hid (HNX.out (.inr hx2))
                clear hx1 hx2 HNX
                go_wp2_with fail
                go_roundw
                case rel => exact ⟨j + 1, hjl, by go_num, HX7.out, HXJ.out⟩
                case measure => simp [intOf]; omega
              · have ne2 : (x != 2) = true := by simpa using hx2
                have HB2 := Lib.hid (HBAD.out 2 (by unfold errSch; rw [if_neg (by rw [HN7.out]; decide), if_neg (by rw [HM8.out]; decide), if_neg H6.out, if_pos ⟨x, HMEM.out, hx1, hx2⟩]) (by decide))
                clear hx1 hx2 HNX
                go_wp2_with fail
                go_ret
                exact ⟨ret_int HB2.out.symm, HX5.out.trans HXJ.out⟩
          · obtain rfl : j = ks.length := by omega
            have p4 : ¬ (ks.length : Int) < (ks.length : Int) := by omega
            have HZ := Lib.hid (HGOOD.out (by
              unfold errSch
              rw [if_neg (by rw [HN7.out]; decide), if_neg (by rw [HM8.out]; decide), if_neg H6.out, if_neg]
              rintro ⟨x, hx, h1, h2⟩
              obtain ⟨t, ht, rfl⟩ := List.getElem_of_mem hx
              exact (HALL.out t ht ht).elim h1 h2))
            go_wp2_with fail
            go_roundw
            case rel => exact ⟨k + 1, hil, by go_num, HZ.out, HX5.out.trans HXJ.out⟩
            case measure => simp [intOf]; omega
end
end Go.Proofs.YtdadchpiibipoaaGreatDoor

/- Parts of the proof, merged: Y30, Y27, Y33, G32a, G32. -/
import Derived.Test.YthgaflmldbgbnaaDoorQ5
import Derived.Test.YthgaflmldbgbnaaDoorQ11
import Derived.ChangeKeysEq

section
/- Three boxes that one call fills in turn. -/
namespace Go.Proofs.YthgaflmldbgbnaaDoor
open Go.RowKit Go.Sort

/-- Three lists that a call builds, and what they point at. -/
structure Three (base : Nat) (w : World) (vo : Value) (no : Nat) (xo : List Value) (vm : Value) (nm : Nat) (xm : List Value) (va : Value) (na : Nat) (xa : List Value) (S : World → Prop) : Prop where
  out : w.ownsRow base 37 3 vo no xo
  ref : w.ownsRow base 44 2 vm nm xm
  ar : w.ownsRow base 3 1 va na xa
  om : ∀ b, vo.ownBlock = some b → vm.ownBlock ≠ some b
  oa : ∀ b, vo.ownBlock = some b → va.ownBlock ≠ some b
  ma : ∀ b, vm.ownBlock = some b → va.ownBlock ≠ some b
  el : Stab (fun b => vo.ownBlock = some b ∨ vm.ownBlock = some b ∨ va.ownBlock = some b) w S
theorem MadeI.three {base : Nat} {w : World} {Z : List (RA × HM)} {vo vm va : Value} (h : MadeI base w Z vo vm va) :
    Three base w vo Z.length (Z.flatMap outC) vm Z.length (Z.flatMap refC) va Z.length (Z.flatMap arC) fun w'' => ∀ z ∈ Z, ElR w.heap.size z w'' :=
  ⟨h.out, h.ref, h.ar, h.om, h.oa, h.ma, h.el⟩
section
variable {base : Nat} {w w' : World} {vo vm va : Value} {no nm na : Nat} {xo xm xa : List Value} {S T : World → Prop}
theorem Three.lt (h : Three base w vo no xo vm nm xm va na xa S) : ∀ b, (vo.ownBlock = some b ∨ vm.ownBlock = some b ∨ va.ownBlock = some b) → b < w.heap.size := fun b hb => by
  rcases hb with hb | hb | hb
  · exact own_lt h.out _ hb
  · exact own_lt h.ref _ hb
  · exact own_lt h.ar _ hb
theorem Three.up (h : Three base w vo no xo vm nm xm va na xa S) (hb : Below w.heap.size w w') : Three base w' vo no xo vm nm xm va na xa S :=
  ⟨own_keep h.out hb, own_keep h.ref hb, own_keep h.ar hb, h.om, h.oa, h.ma, h.el.up hb⟩
/-- What the call makes meanwhile. -/
theorem Three.push (h : Three base w vo no xo vm nm xm va na xa S) (hb : Below w.heap.size w w')
    (hT : ∀ w'' : World, (∀ p : Addr, w.heap.size ≤ p.block → p.block < w'.heap.size → w''.cell? p = w'.cell? p) → T w'') : Three base w' vo no xo vm nm xm va na xa fun w'' => S w'' ∧ T w'' :=
  ⟨own_keep h.out hb, own_keep h.ref hb, own_keep h.ar hb, h.om, h.oa, h.ma, (h.el.up hb).and (Stab.of_from (lo := w.heap.size) (fun b hlo hf => absurd (h.lt b hf) (by omega)) hT)⟩
theorem Three.growO (h : Three base w vo no xo vm nm xm va na xa S) {vo' : Value} {no' : Nat} {xo' : List Value} (ho : w'.ownsRow base 37 3 vo' no' xo') (hg : w.grownBy w' vo.ownBlock) (hv : ∀ b, vo'.ownBlock = some b → vo.ownBlock = some b ∨ b = w.heap.size) :
    Three base w' vo' no' xo' vm nm xm va na xa S :=
  ⟨ho, own_grown h.ref hg fun k hk e => h.om k e.symm hk, own_grown h.ar hg fun k hk e => h.oa k e.symm hk,
   fun b hb hb' => (hv b hb).elim (fun e => h.om b e hb') fun e => by have := own_lt h.ref b hb'; omega,
   fun b hb hb' => (hv b hb).elim (fun e => h.oa b e hb') fun e => by have := own_lt h.ar b hb'; omega, h.ma,
   h.el.grow hg (fun b e => .inl e) fun b hlt hf => by
     rcases hf with hf | hf
     · exact .inl ((hv b hf).resolve_right (by omega))
     · exact .inr hf⟩
theorem Three.growM (h : Three base w vo no xo vm nm xm va na xa S) {vm' : Value} {nm' : Nat} {xm' : List Value} (ho : w'.ownsRow base 44 2 vm' nm' xm') (hg : w.grownBy w' vm.ownBlock) (hv : ∀ b, vm'.ownBlock = some b → vm.ownBlock = some b ∨ b = w.heap.size) :
    Three base w' vo no xo vm' nm' xm' va na xa S :=
  ⟨own_grown h.out hg fun k hk e => h.om k hk e.symm, ho, own_grown h.ar hg fun k hk e => h.ma k e.symm hk,
   fun b hb hb' => (hv b hb').elim (fun e => h.om b hb e) fun e => by have := own_lt h.out b hb; omega, h.oa,
   fun b hb hb' => (hv b hb).elim (fun e => h.ma b e hb') fun e => by have := own_lt h.ar b hb'; omega,
   h.el.grow hg (fun b e => .inr (.inl e)) fun b hlt hf => by
     rcases hf with hf | hf | hf
     · exact .inl hf
     · exact .inr (.inl ((hv b hf).resolve_right (by omega)))
     · exact .inr (.inr hf)⟩
theorem Three.growA (h : Three base w vo no xo vm nm xm va na xa S) {va' : Value} {na' : Nat} {xa' : List Value} (ho : w'.ownsRow base 3 1 va' na' xa') (hg : w.grownBy w' va.ownBlock) (hv : ∀ b, va'.ownBlock = some b → va.ownBlock = some b ∨ b = w.heap.size) :
    Three base w' vo no xo vm nm xm va' na' xa' S :=
  ⟨own_grown h.out hg fun k hk e => h.oa k hk e.symm, own_grown h.ref hg fun k hk e => h.ma k hk e.symm, ho, h.om,
   fun b hb hb' => (hv b hb').elim (fun e => h.oa b hb e) fun e => by have := own_lt h.out b hb; omega,
   fun b hb hb' => (hv b hb').elim (fun e => h.ma b hb e) fun e => by have := own_lt h.ref b hb; omega,
   h.el.grow hg (fun b e => .inr (.inr e)) fun b hlt hf => by
     rcases hf with hf | hf | hf
     · exact .inl hf
     · exact .inr (.inl hf)
     · exact .inr (.inr ((hv b hf).resolve_right (by omega)))⟩
end
/-- One atom more. -/
theorem MadeI.step {base : Nat} {w : World} {vo vm va : Value} {Z : List (RA × HM)} {B1 B2 B3 B4 : Nat} {z : RA × HM} {n : Nat} (hn : n = Z.length + 1)
    (h : Three base w vo n (Z.flatMap outC ++ outC z) vm n (Z.flatMap refC ++ refC z) va n (Z.flatMap arC ++ arC z) fun w'' => ((∀ z ∈ Z, ElR B1 z w'') ∧ (SlI .i64 B2 w'' z.2.VA z.1.vs ∧ SlRs B3 w'' z.2.PA z.1.P)) ∧ SlRs B4 w'' z.2.QA z.1.P)
    (h1 : B1 ≤ w.heap.size) (h2 : B2 ≤ w.heap.size) (h3 : B3 ≤ w.heap.size) (h4 : B4 ≤ w.heap.size) (hk : ∀ z ∈ Z, HmOk z) (hz : HmOk z) : MadeI base w (Z ++ [z]) vo vm va := by
  subst hn
  have e1 : ∀ f : RA × HM → List Value, (Z ++ [z]).flatMap f = Z.flatMap f ++ f z := fun f => by rw [List.flatMap_append]; simp
  have el : (Z ++ [z]).length = Z.length + 1 := by simp
  refine ⟨by rw [el, e1]; exact h.out, by rw [el, e1]; exact h.ref, by rw [el, e1]; exact h.ar, h.om, h.oa, h.ma, h.el.imp fun w'' hs y hy => ?_, fun y hy => ?_⟩
  · rcases List.mem_append.1 hy with hy | hy
    · exact (hs.1.1 y hy).more h1
    · simp at hy; subst hy
      exact ⟨hs.1.2.1.more h2, hs.1.2.2.more h3, hs.2.more h4⟩
  · rcases List.mem_append.1 hy with hy | hy
    · exact hk y hy
    · simp at hy; subst hy; exact hz

/-- A list of the call's own that reads while its blocks are kept. -/
theorem own_held {w : World} {base : Nat} {e : TypeId} {n : Nat} {xs : List Value} {A : Option Addr} {C : Nat} (h : w.ownsRow base e 1 (.slice A n C) n xs) :
    n ≤ C ∧ C ≤ 9223372036854775807 ∧ ∀ w'' : World, (∀ p : Addr, base ≤ p.block → p.block < w.heap.size → w''.cell? p = w.cell? p) → Sl w.heap.size w'' A xs := by
  obtain ⟨A', C', e', h1, h2, h3⟩ := own_slice h (by decide)
  injection e' with e1 _ e3
  subst e1 e3
  refine ⟨h1, h2, fun w'' hk hn => ?_⟩
  obtain ⟨b, rfl, hb, hc⟩ := h3 hn
  refine ⟨b, 0, rfl, hb, fun i u hu => ?_⟩
  rw [Nat.zero_add]
  exact (hk ⟨b, i, none⟩ (own_base h rfl) hb).trans (hc i u hu)

end Go.Proofs.YthgaflmldbgbnaaDoor
end

section
/- Walk: Made of chapter 35's laws. -/
namespace Go.Proofs.YthgaflmldbgbnaaDoor
open Go.RowKit Go.Sort

/-- What Made leaves. -/
def MadeP (w : World) (l : List LA) (e : Ending) (w' : World) : Prop :=
  ((∀ a ∈ l, a.Ok) → ∃ A1 C1 A2 C2 A3 C3, e = .returned (.tuple #[.slice A1 l.length C1, .slice A2 l.length C2, .slice A3 l.length C3, .bool (decide (l.length ≤ 6))]) ∧ l.length ≤ C1 ∧ C1 ≤ 9223372036854775807 ∧ l.length ≤ C2 ∧ C2 ≤ 9223372036854775807 ∧ l.length ≤ C3 ∧ C3 ≤ 9223372036854775807 ∧ AtsM w'.heap.size w' A1 (l.map LA.ra) ∧ AtsR w'.heap.size w' A2 (l.map LA.ra) ∧ SlI .i64 w'.heap.size w' A3 (l.map fun a => (a.d : Int))) ∧
  ((¬ ∀ a ∈ l, a.Ok) → e = .returned (.tuple #[.slice none 0 0, .slice none 0 0, .slice none 0 0, .bool false])) ∧ Below w.heap.size w w'
/-- The loop of Made: the first i atoms are made. -/
def MadeS (w : World) (l : List LA) (vo vm va c : Value) (wr : World) : Prop :=
  ∃ i : Nat, i ≤ l.length ∧ c = .int .i64 i ∧ (∀ a ∈ l.take i, a.Ok) ∧ (∃ Z : List (RA × HM), Z.map Prod.fst = (l.take i).map LA.ra ∧ MadeI w.heap.size wr Z vo vm va) ∧ Below w.heap.size w wr
theorem bit_eq (v k : Nat) : ((v : Int) / 2 ^ k).tmod 2 = ((v / 2 ^ k % 2 : Nat) : Int) := by
  have h : (v : Int) / 2 ^ k = ((v / 2 ^ k : Nat) : Int) := by
    rw [Int.natCast_ediv, Int.natCast_pow]
    rfl
  rw [h]
  rfl
theorem valI_valid (n : Nat) : RL.validV (valI n) = true := by
  unfold valI RL.validV
  have : (ByteArray.mk #[]).size = 0 := rfl
  simp [this]
theorem rowI_wrong (n : Nat) (t : List Nat) : wrongF n (rowI n t) = 0 := by
  unfold wrongF
  rw [rowI_len, if_neg (by simp), if_pos]
  unfold rowI
  rw [List.all_eq_true]
  intro v hv
  obtain ⟨k, _, rfl⟩ := List.mem_map.1 hv
  exact valI_valid _
theorem rowsI_err (n : Nat) (X : List (List Nat)) : errF n (X.map (rowI n)) = 0 := errF_zero.2 fun x hx => by
  obtain ⟨t, _, rfl⟩ := List.mem_map.1 hx
  exact rowI_wrong n t
theorem rowsI_ok {n : Nat} (hn : n ≤ 1000000) (X : List (List Nat)) : RsOk (X.map (rowI n)) := fun x hx => by
  obtain ⟨t, _, rfl⟩ := List.mem_map.1 hx
  refine ⟨by rw [rowI_len]; exact hn, fun v hv => ?_⟩
  unfold rowI at hv
  obtain ⟨k, _, rfl⟩ := List.mem_map.1 hv
  exact Nat.zero_le _
theorem ints_len (l : List Nat) : (ints l).length = l.length := by unfold ints; rw [List.length_map]
theorem own_one (w : World) (base : Nat) (T : TypeId) (u : Value) (hb : base ≤ w.heap.size) : (w.alloc (.cells #[u] T)).ownsRow base T 1 (.slice (some ⟨w.heap.size, 0, none⟩) 1 1) 1 [u] :=
  ⟨rfl, .inr ⟨w.heap.size, 1, #[u], rfl, hb, Row.new w T [u], Nat.le_refl _, by simp [maxLen], rfl, rfl⟩⟩
set_option maxRecDepth 4000 in
/-- append(l, src...) of ints. -/
theorem appIs {w : World} {ops : Array Oper} {rest : List Oper} {o : Oper} {a : Act} {Q : Exit → Act → World → Prop} (hgd : o.guard = none) (s x : Operand)
    (ho : o.op = .call { callee := .builtin .append, args := #[s, x], argTypes := #[27, 27] })
    (base : Nat) (v : Value) (n : Nat) (xs : List Value) (hs0 : a.eval s = v) (hown : w.ownsRow base 3 1 v n xs)
    (A : Option Addr) (m C : Nat) (z : List Int) (hm : z.length = m) (hx : a.eval x = .slice A m C) (hz : SlI .i64 w.heap.size w A z)
    (hn : n + m ≤ 1000000) (hbase : base ≤ w.heap.size)
    (h : ∀ v' w', w'.ownsRow base 3 1 v' (n + m) (xs ++ z.map (Value.int .i64)) → w.grownBy w' v.ownBlock → wpList Tryd.prog ops Q rest (a.put o.dst v') w') : wpList Tryd.prog ops Q (o :: rest) a w := by
  subst hm
  obtain ⟨i0, hi0, hz0, hz1, hz2⟩ := info_parts intInfo
  have hcell : ∀ ad, A = some ad → ∀ j u, (z.map (Value.int .i64))[j]? = some u → w.cell? (ad.add j) = some u := fun ad e j u hu => by
    obtain ⟨b, o, e', hb, hc⟩ := hz (by intro h0; rw [h0] at hu; simp at hu)
    rw [e] at e'
    injection e' with e'
    subst e'
    rw [Addr.add_lit]
    exact hc j u hu
  refine wpList_plain hgd fun K hK => ?_
  rcases A with _ | ad
  · have hy : z = [] := by
      refine Classical.byContradiction fun hne => ?_
      obtain ⟨b, o, e', hb, hc⟩ := hz (by simpa using hne)
      cases e'
    subst hy
    have hrun := run_append_none (P := Tryd.prog) w base 27 o.type 3 i0 1 Tryd.underlying27 hi0 v n xs hown C
    unfold Oper.wp execOp
    simp only [List.length_nil] at hx
    simp only [ho, resolve, invoke, builtin, Sem.run_bind, Sem.run_pure, Result.andThen_ok, List.map_toArray, List.map_cons, List.map_nil, hs0, hx, hrun]
    exact hK _ _ (h v w (by rw [List.map_nil, List.append_nil]; exact hown) ⟨rfl, rfl, rfl, Nat.le_refl _, fun _ _ _ => rfl⟩)
  · obtain ⟨v', w', hrun, k2, k3, _, k5⟩ := run_append_own_at (P := Tryd.prog) w base 27 o.type 3 i0 _ 1 8 Tryd.underlying27 hi0 hz0 hz1 hz2 rfl (by decide) v n xs hown ad z.length C (z.map (Value.int .i64)) (by simp) (hcell ad rfl) (by simp [Value.oneCell']) (by simp only [maxLen]; omega) (by omega) hbase
    unfold Oper.wp execOp
    simp only [ho, resolve, invoke, builtin, Sem.run_bind, Sem.run_pure, Result.andThen_ok, List.map_toArray, List.map_cons, List.map_nil, hs0, hx, hrun]
    exact hK _ _ (h v' w' k2 k3)
theorem grown_alloc {w w' : World} {o : Obj} {row : Option Nat} (h : (w.alloc o).grownBy w' row) : w.grownBy w' row := grown_trans (((Ext.refl w).alloc o).grown row) h
theorem MadeP.bad {w w' : World} {l : List LA} {a : LA} (ha : a ∈ l) (hn : ¬ a.Ok) (hb : Below w.heap.size w w') : MadeP w l (.returned (.tuple #[.slice none 0 0, .slice none 0 0, .slice none 0 0, .bool false])) w' :=
  ⟨fun h => absurd (h a ha) hn, fun _ => rfl, hb⟩

set_option maxHeartbeats 8000000 in
set_option maxRecDepth 100000 in
theorem l35Made_any (A : Option Addr) (C : Nat) (l : List LA) (w : World) (hA : AtsL w.heap.size w A l) (hB : LBytes l) (hl : l.length ≤ 3518437208780) :
    Calls Tryd.prog 5 #[.slice A l.length C] w (MadeP w l) := by
  have HA := Lib.hid hA
  have HBY := Lib.hid hB
  have HBAD := Lib.hid (fun (a : LA) (ha : a ∈ l) (hn : ¬ a.Ok) (w' : World) (hb : Below w.heap.size w w') => MadeP.bad ha hn hb)
  clear hA hB
  go_enter Tryd.func5, Tryd.ntmps5
  go_wp2
  go_loopw [6, 7, 8, 23] (MadeS w l) (fun _ _ _ c _ => l.length - (intOf c).toNat)
  case atStart => exact ⟨0, Nat.zero_le _, rfl, fun a ha => by simp at ha, ⟨[], rfl, MadeI.nil _ _⟩, Below.refl _ _⟩
  case round =>
    obtain ⟨i, hi, rfl, hall, ⟨Z, hZ, hM⟩, hb⟩ := hrel
    have HALL := Lib.hid hall
    have HZ := Lib.hid hZ
    have HM := Lib.hid hM
    have HB := Lib.hid hb
    have hzb := hb.size
    have HZL : Hid (Z.length = i) := by
      have := congrArg List.length hZ
      rw [List.length_map, List.length_map, List.length_take, Nat.min_eq_left hi] at this
      exact this
    clear hall hZ hM hb
    by_cases h1 : i < l.length
    rotate_left
    · obtain rfl : i = l.length := by omega
      obtain ⟨A1, C1, A2, C2, A3, C3, e1, e2, e3, c1, d1, c2, d2, c3, d3, ha, hr, hz⟩ := HM.out.fin
      have hT : l.take l.length = l := List.take_length
      have HZ2 := HZ.out
      have HALL2 := HALL.out
      rw [hT] at HZ2 HALL2
      rw [HZL.out] at e1 e2 e3 c1 c2 c3
      rw [HZ2] at ha hr
      have hz2 : SlI .i64 wr.heap.size wr A3 (l.map fun a => (a.d : Int)) := by
        have e : (Z.map fun z => z.1.ar) = l.map fun a => (a.d : Int) := by
          have := congrArg (List.map RA.ar) HZ2
          rw [List.map_map, List.map_map] at this
          exact this
        rw [← e]
        exact hz
      subst e1 e2 e3
      obtain ⟨b6, hb6, hb7⟩ : ∃ b : Bool, decide ((l.length : Int) ≤ 6) = b ∧ b = decide (l.length ≤ 6) := ⟨_, decide_eq_decide.2 (by omega), rfl⟩
      have HP : Hid (MadeP w l (.returned (.tuple #[.slice A1 l.length C1, .slice A2 l.length C2, .slice A3 l.length C3, .bool b6])) wr) := ⟨fun _ => ⟨A1, C1, A2, C2, A3, C3, by rw [hb7], c1, d1, c2, d2, c3, d3, ha, hr, hz2⟩, fun h => absurd HALL2 h, HB.out⟩
      clear HA HBY HBAD HALL HZ HM HB HZL HZ2 HALL2 hz2 ha hr hz hb7 hT c1 d1 c2 d2 c3 d3
      go_wp2
      exact bodyPost_ret (v := .tuple #[.slice A1 l.length C1, .slice A2 l.length C2, .slice A3 l.length C3, .bool b6]) (by simp [results, Tryd.results5, go_sem]) rfl HP.out
    obtain ⟨ab, ao, RA, RC, rfl, hab, c0, c1, c2, q⟩ := atsL_at HA.out h1
    have c0 := (HB.out.cell (p := ⟨ab, ao + i * 3, none⟩) hab).trans c0
    have c1 := (HB.out.cell (p := ⟨ab, ao + i * 3 + 1, none⟩) hab).trans c1
    have c2 := (HB.out.cell (p := ⟨ab, ao + i * 3 + 2, none⟩) hab).trans c2
    have hab2 := Nat.lt_of_lt_of_le hab hzb
    have HQ := Lib.hid q
    have HBY1 := Lib.hid (HBY.out _ (List.getElem_mem h1))
    have HMEM : Hid (l[i] ∈ l) := List.getElem_mem h1
    have HTK : Hid (l.take (i + 1) = l.take i ++ [l[i]]) := List.take_succ_eq_append_getElem h1
    have g1 : (0 : Int) ≤ (i : Int) := by omega
    have g2 : (i : Int) < (l.length : Int) := by omega
    have hw1 : IntKind.i64.wrap ((i : Int) + 1) = ((i + 1 : Nat) : Int) := by rw [IntWalk.i64_in _ (by omega)]; omega
    generalize l[i] = a at *
    clear q
    obtain ⟨wo, hwo⟩ : ∃ wo, wo = wr := ⟨_, rfl⟩
    subst hwo
    obtain ⟨W1, hW1⟩ : ∃ W1, W1 = wo.alloc (.cells #[.int .u8 (a.v : Nat), .slice RA a.R.length RC, .int .u8 (a.b : Nat)] 24) := ⟨_, rfl⟩
    have hr1 : Row W1 wo.heap.size 24 [.int .u8 (a.v : Nat), .slice RA a.R.length RC, .int .u8 (a.b : Nat)] := by rw [hW1]; exact Row.new wo 24 _
    have hx1 : Ext wo W1 := by rw [hW1]; exact (Ext.refl wo).alloc _
    have HR1 := Lib.hid hr1
    have HX1 := Lib.hid hx1
    clear hr1 hx1
    go_wp2_with fail
    rw [← hW1]
    clear hW1 c0 c1 c2
    go_loopw [11, 27] (fun v c wx => ∃ k : Nat, k ≤ 8 ∧ c = .int .i64 k ∧ wx.ownsRow W1.heap.size 3 1 v (varsK a.v k).length ((ints (varsK a.v k)).map (Value.int .i64)) ∧ Below W1.heap.size W1 wx) (fun _ c _ => 8 - (intOf c).toNat)
    case atStart => exact ⟨0, Nat.zero_le _, rfl, own_nil _ _ _ _, Below.refl _ _⟩
    case round =>
      obtain ⟨k, hk, rfl, hown, hb⟩ := hrel
      have HO := Lib.hid hown
      have HBK := Lib.hid hb
      have hzk := hb.size
      have hr2 := HR1.out.up hb
      have HR2 := Lib.hid hr2
      have b0 : wr.cell? ⟨wo.heap.size, 0, none⟩ = some (.int .u8 (a.v : Nat)) := hr2.cell 0
      have b1 : wr.cell? ⟨wo.heap.size, 1, none⟩ = some (.slice RA a.R.length RC) := hr2.cell 1
      have b2 : wr.cell? ⟨wo.heap.size, 2, none⟩ = some (.int .u8 (a.b : Nat)) := hr2.cell 2
      have hbz := hr2.lt
      clear hown hb hr2
      by_cases h2 : k < 8
      · have hwk : IntKind.i64.wrap ((k : Int) + 1) = ((k + 1 : Nat) : Int) := by rw [IntWalk.i64_in _ (by omega)]; omega
        have HVS := Lib.hid (varsK_succ a.v k)
        by_cases hbt : a.v / 2 ^ k % 2 = 1
        · have hbit : (((a.v : Int) / 2 ^ k).tmod 2 == 1) = true := by rw [bit_eq, hbt]; rfl
          have HV2 := Lib.hid (HVS.out.trans (if_pos hbt))
          have hkl := varsK_len a.v k
          obtain ⟨VA, VC, rfl, -, -, -⟩ := own_slice HO.out (by decide)
          clear hbt HVS
          go_wp2_with
            (at_builtin; refine app1Int rfl (.tmp 36) (.tmp 38) rfl W1.heap.size (.slice VA (varsK a.v k).length VC) (varsK a.v k).length ((ints (varsK a.v k)).map (Value.int .i64)) rfl (HO.out.alloc _) wr.heap.size [.int .i64 (k : Nat)] rfl (Row.new wr 3 [.int .i64 (k : Nat)]) rfl (by simp [Value.oneCell']) (by omega) (by simp; omega) ?_
             intro v' w6 hown6 hg6 hat6
             obtain ⟨A6, C6, rfl, -, -, -⟩ := own_slice hown6 (by decide)
             have HO6 : Hid (w6.ownsRow W1.heap.size 3 1 (.slice A6 ((varsK a.v k).length + 1) C6) (varsK a.v (k + 1)).length ((ints (varsK a.v (k + 1))).map (Value.int .i64))) := by
               rw [HV2.out, List.length_append]
               unfold ints at hown6 ⊢
               rw [List.map_append, List.map_append]
               exact hown6
             have HB6 : Hid (Below W1.heap.size W1 w6) := HBK.out.trans (app_kept (fun b hb => own_base HO.out hb) hzk hg6)
             clear hown6 hg6 hat6)
          go_roundw
          case rel => exact ⟨k + 1, h2, by go_num, HO6.out, HB6.out⟩
          case measure => simp [intOf]; omega
        · have hbit : (((a.v : Int) / 2 ^ k).tmod 2 == 1) = false := by
            rw [bit_eq]
            have : ((a.v / 2 ^ k % 2 : Nat) : Int) ≠ 1 := by omega
            simpa using this
          have HV2 := Lib.hid (HVS.out.trans (if_neg hbt))
          clear hbt HVS
          go_wp2
          go_roundw
          case rel => exact ⟨k + 1, h2, by go_num, by rw [HV2.out]; exact HO.out, HBK.out⟩
          case measure => simp [intOf]; omega
      · have HO2 : Hid (wr.ownsRow W1.heap.size 3 1 u11 a.d ((ints a.ks).map (Value.int .i64))) := by
          have h := HO.out
          rw [show k = 8 by omega] at h
          exact h
        obtain ⟨k8, hk8⟩ : ∃ k8, k8 = k := ⟨_, rfl⟩
        subst hk8
        obtain ⟨VA, VC, rfl, -, -, -⟩ := own_slice HO2.out (by decide)
        have hd8 := a.d_le
        have HBW := Lib.hid (Below.then (Below.then HB.out HX1.out.below hzb) HBK.out (by have := HX1.out.size; omega))
        have HBO := Lib.hid (Below.then HX1.out.below HBK.out HX1.out.size)
        clear HO
        by_cases hd4 : 4 < a.d
        · have hdd : decide ((4 : Int) < (a.d : Int)) = true := decide_eq_true (by omega)
          have HNO : Hid (¬ a.Ok) := fun h => by have := h.1; omega
          go_wp2
          exact bodyPost_ret (v := .tuple #[.slice none 0 0, .slice none 0 0, .slice none 0 0, .bool false]) (by simp [results, Tryd.results5, go_sem]) rfl (HBAD.out a HMEM.out HNO.out _ HBW.out)
        have hdd : decide ((4 : Int) < (a.d : Int)) = false := decide_eq_false (by omega)
        by_cases hR : 12 < a.R.length
        · have hdd2 : decide ((12 : Int) < (a.R.length : Int)) = true := decide_eq_true (by omega)
          have HNO : Hid (¬ a.Ok) := fun h => by have := h.2; omega
          go_wp2
          exact bodyPost_ret (v := .tuple #[.slice none 0 0, .slice none 0 0, .slice none 0 0, .bool false]) (by simp [results, Tryd.results5, go_sem]) rfl (HBAD.out a HMEM.out HNO.out _ HBW.out)
        have hdd2 : decide ((12 : Int) < (a.R.length : Int)) = false := decide_eq_false (by omega)
        have HOK : Hid a.Ok := ⟨by omega, by omega⟩
        obtain ⟨wv, hwv⟩ : ∃ wv, wv = wr := ⟨_, rfl⟩
        subst hwv
        have hzv := HBW.out.size
        go_wp2_with fail
        go_loopw [13, 53] (fun v c wx => ∃ j : Nat, j ≤ a.R.length ∧ c = .int .i64 j ∧ OwnRs wx wv.heap.size 64 v ((a.R.take j).map (rowI a.d)) ∧ Below wv.heap.size wv wx) (fun _ c _ => a.R.length - (intOf c).toNat)
        case atStart => exact ⟨0, Nat.zero_le _, rfl, OwnRs.nil _ _ _, Below.refl _ _⟩
        case round =>
          obtain ⟨j, hj, rfl, hrs, hbj⟩ := hrel
          have HRS := Lib.hid hrs
          have HBJ := Lib.hid hbj
          have hzj := hbj.size
          clear hrs hbj b0 b1 b2
          by_cases h3 : j < a.R.length
          · obtain ⟨qb, qo, rfl, hqb, hqc⟩ := HQ.out (by intro h0; rw [h0] at h3; simp at h3)
            have HBWJ := Lib.hid (Below.then HBW.out HBJ.out hzv)
            have d0 := (HBWJ.out.cell (p := ⟨qb, qo + j * 4 + 0, none⟩) hqb).trans (hqc j h3 0 (by omega))
            have d1 := (HBWJ.out.cell (p := ⟨qb, qo + j * 4 + 1, none⟩) hqb).trans (hqc j h3 1 (by omega))
            have d2 := (HBWJ.out.cell (p := ⟨qb, qo + j * 4 + 2, none⟩) hqb).trans (hqc j h3 2 (by omega))
            have d3 := (HBWJ.out.cell (p := ⟨qb, qo + j * 4 + 3, none⟩) hqb).trans (hqc j h3 3 (by omega))
            rw [Nat.add_zero] at d0
            have hqb2 := Nat.lt_of_lt_of_le hqb HBWJ.out.size
            have g3 : (0 : Int) ≤ (j : Int) := by omega
            have g4 : (j : Int) < (a.R.length : Int) := by omega
            have hwj : IntKind.i64.wrap ((j : Int) + 1) = ((j + 1 : Nat) : Int) := by rw [IntWalk.i64_in _ (by omega)]; omega
            have HTJ : Hid ((a.R.take (j + 1)).map (rowI a.d) = (a.R.take j).map (rowI a.d) ++ [rowI a.d a.R[j]]) := map_snoc _ _ _ h3
            clear hqc
            generalize a.R[j] = t at *
            obtain ⟨wj, hwj2⟩ : ∃ wj, wj = wr := ⟨_, rfl⟩
            subst hwj2
            have HYC : ∃ y0 y1 y2 y3 : Nat, y0 = t.getD 0 0 ∧ y1 = t.getD 1 0 ∧ y2 = t.getD 2 0 ∧ y3 = t.getD 3 0 := ⟨_, _, _, _, rfl, rfl, rfl, rfl⟩
            obtain ⟨y0, y1, y2, y3, e0, e1, e2, e3⟩ := HYC
            have HYK : Hid (∀ k, k < 4 → [Value.int .u8 (y0 : Nat), .int .u8 (y1 : Nat), .int .u8 (y2 : Nat), .int .u8 (y3 : Nat)][k]? = some (.int .u8 (t.getD k 0 : Nat))) := fun k hk => by
              match k, hk with
              | 0, _ => rw [e0]; rfl
              | 1, _ => rw [e1]; rfl
              | 2, _ => rw [e2]; rfl
              | 3, _ => rw [e3]; rfl
            rw [← e0] at d0
            rw [← e1] at d1
            rw [← e2] at d2
            rw [← e3] at d3
            clear e0 e1 e2 e3
            obtain ⟨W3, hW3⟩ : ∃ W3, W3 = wj.alloc (.cells #[.int .u8 (y0 : Nat), .int .u8 (y1 : Nat), .int .u8 (y2 : Nat), .int .u8 (y3 : Nat)] 62) := ⟨_, rfl⟩
            have hr3 : Row W3 wj.heap.size 62 [.int .u8 (y0 : Nat), .int .u8 (y1 : Nat), .int .u8 (y2 : Nat), .int .u8 (y3 : Nat)] := by rw [hW3]; exact Row.new wj 62 _
            have hx3 : Ext wj W3 := by rw [hW3]; exact (Ext.refl wj).alloc _
            have HR3 := Lib.hid hr3
            have HX3 := Lib.hid hx3
            have HZ3 : Hid (W3.heap.size = wj.heap.size + 1) := by show _ = _; rw [hW3]; simp
            clear hr3 hx3
            go_wp2_with fail
            rw [← hW3]
            clear hW3 d0 d1 d2 d3
            obtain ⟨W4, hW4⟩ : ∃ W4, W4 = W3.alloc (.cells #[] 66) := ⟨_, rfl⟩
            have HX4 : Hid (Ext W3 W4) := by rw [hW4]; exact (Ext.refl W3).alloc _
            have HE4 : Hid (W4.ownsRow W3.heap.size 66 3 (.slice (some ⟨W3.heap.size, 0, none⟩) 0 0) (rowI 0 t).length (rcells (rowI 0 t))) := by rw [hW4]; exact own_empty W3 _ _ _ (Nat.le_refl _)
            rw [← hW4]
            clear hW4
            go_loopw [16, 60] (fun v c wx => ∃ k : Nat, k ≤ a.d ∧ c = .int .i64 k ∧ wx.ownsRow W3.heap.size 66 3 v (rowI k t).length (rcells (rowI k t)) ∧ Below W3.heap.size W3 wx) (fun _ c _ => a.d - (intOf c).toNat)
            case atStart => exact ⟨0, Nat.zero_le _, rfl, by rw [← HZ3.out]; exact HE4.out, HX4.out.below⟩
            case round =>
              obtain ⟨k, hk, rfl, hown, hbk⟩ := hrel
              have HOK2 := Lib.hid hown
              have HBK2 := Lib.hid hbk
              have hzk2 := hbk.size
              have HKL := Lib.hid (rowI_len k t)
              obtain ⟨-, A5, C5, rfl, hc5, hm5, hs5, hf5⟩ := SlR.of_own hown
              have HF5 := Lib.hid (And.intro hc5 (And.intro hm5 (And.intro hs5 hf5)))
              have hr5 := HR3.out.up hbk
              have hb5z := hr5.lt
              clear hown hbk hc5 hm5 hs5 hf5
              by_cases h4 : k < a.d
              · have hck := (hr5.cell k).trans (HYK.out k (by omega))
                have g5 : (0 : Int) ≤ (k : Int) := by omega
                have g6 : (k : Int) < 4 := by omega
                have hwk2 : IntKind.i64.wrap ((k : Int) + 1) = ((k + 1 : Nat) : Int) := by rw [IntWalk.i64_in _ (by omega)]; omega
                have HSU := Lib.hid (rowI_succ k t)
                generalize t.getD k 0 = x at hck HSU
                clear hr5
                go_wp2_with
                  (at_builtin
                   refine app1V rfl (.tmp 63) (.tmp 70) rfl W3.heap.size (.slice A5 (rowI k t).length C5) (rowI k t) rfl (HOK2.out.alloc _) wr.heap.size (valI x) rfl ((Row.new wr 66 [.int .i64 1, .int .i64 ((x : Int) % 4), .string ⟨#[]⟩]).cell 0) ((Row.new wr 66 [.int .i64 1, .int .i64 ((x : Int) % 4), .string ⟨#[]⟩]).cell 1) ((Row.new wr 66 [.int .i64 1, .int .i64 ((x : Int) % 4), .string ⟨#[]⟩]).cell 2) (by have := HKL.out; omega) (by simp; omega) ?_
                   intro v' w6 hown6 hg6
                   rw [← HSU.out] at hown6
                   obtain ⟨-, A6, C6, rfl, -, -, -, -⟩ := SlR.of_own hown6
                   have HO6 := Lib.hid hown6
                   have HB6 : Hid (Below W3.heap.size W3 w6) := HBK2.out.trans (app_kept (fun b hb => own_base HOK2.out hb) hzk2 hg6)
                   clear hown6 hg6)
                go_wp2
                go_roundw
                case rel => exact ⟨k + 1, h4, by go_num, HO6.out, HB6.out⟩
                case measure => simp [intOf]; omega
              · obtain rfl : k = a.d := by omega
                clear hr5
                have HB5 := Lib.hid (Below.then HX3.out.below HBK2.out HX3.out.size)
                have HRS5 := Lib.hid ((HRS.out.keep HB5.out).keep ((Below.refl _ _).alloc (Nat.le_refl _) (.cells #[.slice A5 (rowI a.d t).length C5] 64)))
                have hz5 := HB5.out.size
                have HLT := Lib.hid (fun g hg => (own_lt (HRS.out).choose_spec.1 g hg))
                have HSL := Lib.hid (HF5.out.2.2.1.alloc1 (.cells #[.slice A5 (rowI a.d t).length C5] 64))
                have HLJ : Hid (((a.R.take j).map (rowI a.d)).length ≤ 12) := by
                  show _ ≤ _
                  rw [List.length_map, List.length_take]; omega
                go_wp2_with
                  (at_builtin
                   refine app1Row rfl (.tmp 73) (.tmp 75) rfl wv.heap.size u13 ((a.R.take j).map (rowI a.d)) rfl HRS5.out wr.heap.size A5 C5 (rowI a.d t) rfl (by go_simp) HSL.out HF5.out.1 HF5.out.2.1 (fun _ ad e e2 => by have h3 := HF5.out.2.2.2 ad e; have h4 := HLT.out _ e2; have := HZ3.out; omega) (by have := HLJ.out; omega) (by simp; omega) ?_
                   intro v' w7 hown7 hg7
                   rw [← HTJ.out] at hown7
                   have HO7 := Lib.hid hown7
                   have HB7 := Lib.hid (((Below.then HBJ.out HB5.out hzj).alloc (by omega) (.cells #[.slice A5 (rowI a.d t).length C5] 64)).grown hg7 (by simp; omega) HRS5.out.base)
                   clear hown7 hg7)
                go_wp2
                go_roundw
                case rel => exact ⟨j + 1, h3, by go_num, HO7.out, HB7.out⟩
                case measure => simp [intOf]; omega
          · have hrs := HRS.out
            rw [List.take_of_length_le (by omega)] at hrs
            obtain ⟨SA, SC, rfl, hsc, hsm, hss⟩ := hrs.sl
            have HWR := Lib.hid (Below.then HBW.out HBJ.out hzv)
            have hof := rlOf_any (a.d : Int) SA SC (a.R.map (rowI a.d)) wr (by omega) (by omega) hss (rowsI_ok (by omega) a.R) (by rw [List.length_map]; omega)
            rw [List.length_map] at hof ⊢
            have HOF := Lib.hid hof
            have HERR := Lib.hid (rowsI_err a.d a.R)
            have HOJ := Lib.hid (own_keep HO2.out HBJ.out)
            have hvlt := fun g hg => (own_lt HO2.out g hg)
            have HVLT := Lib.hid hvlt
            have hr2 := HR2.out.up HBJ.out
            have HR3 := Lib.hid hr2
            have b0 : wr.cell? ⟨wo.heap.size, 0, none⟩ = some (.int .u8 (a.v : Nat)) := hr2.cell 0
            have b1 : wr.cell? ⟨wo.heap.size, 1, none⟩ = some (.slice RA a.R.length RC) := hr2.cell 1
            have b2 : wr.cell? ⟨wo.heap.size, 2, none⟩ = some (.int .u8 (a.b : Nat)) := hr2.cell 2
            have hbz2 := hr2.lt
            clear hrs hsc hsm hss hof hvlt hr2 HRS
            go_wp2_with fail
            refine HOF.out.mono ?_
            rintro e w5 ⟨h1, -, hb5⟩
            obtain ⟨rv, rfl, PA, PC, rfl, hpc, hpm, hfr⟩ := h1 HERR.out
            have HFR : Hid (FreshRs wr.heap.size w5 PA a.rows) := hfr
            have HPC : Hid (a.rows.length ≤ PC ∧ PC ≤ 9223372036854775807) := ⟨hpc, hpm⟩
            have HPL : Hid ((RL.ofF (a.R.map (rowI a.d))).length = a.rows.length) := rfl
            rw [HPL.out]
            have HB5 := Lib.hid hb5
            have hz5 := hb5.size
            have hr5 := HR3.out.up hb5
            have HR5 := Lib.hid hr5
            clear h1 hpc hpm hfr hb5 HOF HERR HPL b0 b1 b2
            obtain ⟨W6, hW6⟩ : ∃ W6, W6 = w5.alloc (.cells #[.int .i64 (a.d : Nat), .slice PA a.rows.length PC] 35) := ⟨_, rfl⟩
            have hr6 : Row W6 w5.heap.size 35 [.int .i64 (a.d : Nat), .slice PA a.rows.length PC] := by rw [hW6]; exact Row.new w5 35 _
            have hx6 : Ext w5 W6 := by rw [hW6]; exact (Ext.refl w5).alloc _
            have hr56 := hr5.up hx6.below
            have b0 : W6.cell? ⟨wo.heap.size, 0, none⟩ = some (.int .u8 (a.v : Nat)) := hr56.cell 0
            have b1 : W6.cell? ⟨wo.heap.size, 1, none⟩ = some (.slice RA a.R.length RC) := hr56.cell 1
            have b2 : W6.cell? ⟨wo.heap.size, 2, none⟩ = some (.int .u8 (a.b : Nat)) := hr56.cell 2
            have hbz6 := hr56.lt
            have HR6 := Lib.hid hr6
            have HX6 := Lib.hid hx6
            have HO6 := Lib.hid (own_keep (own_keep HOJ.out HB5.out) hx6.below)
            have hz6 := hx6.size
            have HP5 : Hid (FreshRs wr.heap.size w5 PA a.rows) := HFR.out
            have HBO6 := Lib.hid (Below.then (Below.then (Below.then HBO.out HBJ.out (by have := HX1.out.size; have := HBK.out.size; omega)) HB5.out (by have := HX1.out.size; have := HBK.out.size; omega)) hx6.below (by have := HX1.out.size; have := HBK.out.size; omega))
            clear hr5 hr6 hx6 hr56
            go_upto_region 32 with (fail)
            rw [← hW6]
            clear hW6
            go_upto_block 8 with (fail)
            go_cut [11] from 91 to 105 (fun v wx => ∃ VB VD, v = .slice VB (badV a.b (ints a.ks)).length VD ∧ wx.ownsRow W1.heap.size 3 1 v (badV a.b (ints a.ks)).length ((badV a.b (ints a.ks)).map (Value.int .i64)) ∧ W6.grownBy wx (Value.slice VA a.d VC).ownBlock)
            case first =>
              have HLD : Hid ((ints a.ks).length = a.d) := ints_len a.ks
              have hnn : a.d ≤ 8 := hd8
              by_cases hb0 : a.b = 0
              · have hq0 : ((a.b : Int) == 0) = true := by rw [hb0]; rfl
                have HBV : Hid (badV a.b (ints a.ks) = ints a.ks) := by show _ = _; unfold badV; rw [if_pos hb0]
                clear hb0
                go_wp2_with fail
                go_meet
                case rel =>
                  rw [HBV.out, HLD.out]
                  exact ⟨VA, VC, rfl, HO6.out, ⟨rfl, rfl, rfl, Nat.le_refl _, fun _ _ _ => rfl⟩⟩
              have hq0 : ((a.b : Int) == 0) = false := by
                have : (a.b : Int) ≠ 0 := by omega
                simpa using this
              by_cases hb1 : a.b = 1
              · have hq1 : ((a.b : Int) == 1) = true := by rw [hb1]; rfl
                have HBV : Hid (badV a.b (ints a.ks) = ints a.ks ++ [9]) := by show _ = _; unfold badV; rw [if_neg hb0, if_pos hb1]
                clear hb0 hb1
                go_wp2_with
                  (at_builtin
                   refine app1Int rfl (.tmp 98) (.tmp 99) rfl W1.heap.size (.slice VA a.d VC) a.d ((ints a.ks).map (Value.int .i64)) rfl (HO6.out.alloc _) W6.heap.size [.int .i64 9] rfl (Row.new W6 3 [.int .i64 9]) rfl (by simp [Value.oneCell']) (by omega) (by simp; omega) ?_
                   intro v' w7 hown7 hg7 hat7
                   obtain ⟨A7, C7, rfl, -, -, -⟩ := own_slice hown7 (by decide)
                   have HO7 : Hid (∃ VB VD, Value.slice A7 (a.d + 1) C7 = .slice VB (badV a.b (ints a.ks)).length VD ∧ w7.ownsRow W1.heap.size 3 1 (Value.slice A7 (a.d + 1) C7) (badV a.b (ints a.ks)).length ((badV a.b (ints a.ks)).map (Value.int .i64)) ∧ W6.grownBy w7 (Value.slice VA a.d VC).ownBlock) := by
                     refine ⟨A7, C7, ?_, ?_, grown_alloc hg7⟩
                     · rw [HBV.out, List.length_append, HLD.out]; rfl
                     · rw [HBV.out, List.length_append, HLD.out, List.map_append]; exact hown7
                   clear hown7 hg7 hat7)
                go_wp2_with fail
                go_meet
                case rel => exact HO7.out
              have hq1 : ((a.b : Int) == 1) = false := by
                have : (a.b : Int) ≠ 1 := by omega
                simpa using this
              by_cases hb2 : a.b = 2
              · have hq2 : ((a.b : Int) == 2) = true := by rw [hb2]; rfl
                have HBV : Hid (badV a.b (ints a.ks) = ints a.ks ++ [0]) := by show _ = _; unfold badV; rw [if_neg hb0, if_neg hb1, if_pos hb2]
                clear hb0 hb1 hb2
                go_wp2_with
                  (at_builtin
                   refine app1Int rfl (.tmp 103) (.tmp 104) rfl W1.heap.size (.slice VA a.d VC) a.d ((ints a.ks).map (Value.int .i64)) rfl (HO6.out.alloc _) W6.heap.size [.int .i64 0] rfl (Row.new W6 3 [.int .i64 0]) rfl (by simp [Value.oneCell']) (by omega) (by simp; omega) ?_
                   intro v' w7 hown7 hg7 hat7
                   obtain ⟨A7, C7, rfl, -, -, -⟩ := own_slice hown7 (by decide)
                   have HO7 : Hid (∃ VB VD, Value.slice A7 (a.d + 1) C7 = .slice VB (badV a.b (ints a.ks)).length VD ∧ w7.ownsRow W1.heap.size 3 1 (Value.slice A7 (a.d + 1) C7) (badV a.b (ints a.ks)).length ((badV a.b (ints a.ks)).map (Value.int .i64)) ∧ W6.grownBy w7 (Value.slice VA a.d VC).ownBlock) := by
                     refine ⟨A7, C7, ?_, ?_, grown_alloc hg7⟩
                     · rw [HBV.out, List.length_append, HLD.out]; rfl
                     · rw [HBV.out, List.length_append, HLD.out, List.map_append]; exact hown7
                   clear hown7 hg7 hat7)
                go_wp2_with fail
                go_meet
                case rel => exact HO7.out
              have hq2 : ((a.b : Int) == 2) = false := by
                have : (a.b : Int) ≠ 2 := by omega
                simpa using this
              have HBV : Hid (badV a.b (ints a.ks) = -1 :: ints a.ks) := by show _ = _; unfold badV; rw [if_neg hb0, if_neg hb1, if_neg hb2]
              clear hb0 hb1 hb2
              have HSL6 : Hid (SlI .i64 W6.heap.size W6 VA (ints a.ks)) := by
                obtain ⟨A', C', e', -, hs'⟩ := Sl.of_own_n HO6.out
                injection e' with e1 _ e3
                subst e1 e3
                exact hs'
              go_wp2_with
                (at_builtin
                 refine appIs rfl (.tmp 91) (.tmp 92) rfl W1.heap.size (.slice (some ⟨W6.heap.size, 0, none⟩) 1 1) 1 [.int .i64 (-1)] ?_ ?_ VA a.d VC (ints a.ks) HLD.out ?_ ?_ ?_ ?_ ?_
                 · rfl
                 · exact own_one W6 W1.heap.size 3 (.int .i64 (-1)) (by omega)
                 · rfl
                 · exact (Sl.below HSL6.out ((Below.refl _ _).alloc (Nat.le_refl _) _) (Nat.le_refl _)).more (by simp)
                 · omega
                 · simp; omega
                 intro v' w7 hown7 hg7
                 obtain ⟨A7, C7, rfl, -, -, -⟩ := own_slice hown7 (by decide)
                 have HO7 : Hid (∃ VB VD, Value.slice A7 (1 + a.d) C7 = .slice VB (badV a.b (ints a.ks)).length VD ∧ w7.ownsRow W1.heap.size 3 1 (Value.slice A7 (1 + a.d) C7) (badV a.b (ints a.ks)).length ((badV a.b (ints a.ks)).map (Value.int .i64)) ∧ W6.grownBy w7 (Value.slice VA a.d VC).ownBlock) := by
                   have hl : (badV a.b (ints a.ks)).length = 1 + a.d := by rw [HBV.out, List.length_cons, HLD.out]; omega
                   refine ⟨A7, C7, by rw [hl], ?_, ?_⟩
                   · rw [hl, HBV.out]; exact hown7
                   · have h := grown_alloc hg7
                     exact ⟨h.os, h.tape, h.output, h.size, fun b hb _ => h.block b hb (by intro e; have e' : some b = some W6.heap.size := e; injection e' with e'; omega)⟩
                 clear hown7 hg7)
              go_wp2_with fail
              go_meet
              case rel => exact HO7.out
            case rest =>
              obtain ⟨VB, VD, rfl, hownB, hgB⟩ := hcut
              have hzc := hgB.size
              have hx1z := HX1.out.size
              have hvo : ∀ g, (Value.slice VA a.d VC).ownBlock = some g → W1.heap.size ≤ g ∧ g < wv.heap.size := fun g hg => ⟨own_base HO2.out hg, HVLT.out g hg⟩
              obtain ⟨hv1, hv2, hv3⟩ := own_held hownB
              have hbc : Below wo.heap.size wo wc := HBO6.out.grown hgB (by omega) (fun g hg => by have := hvo g hg; omega)
              have ht0 := (HM.out.three).push hbc (T := fun w'' => SlI .i64 wc.heap.size w'' VB (badV a.b (ints a.ks)) ∧ SlRs w5.heap.size w'' PA a.rows) fun w'' hk => ⟨hv3 w'' fun p h1 h2 => hk p (by omega) h2, HP5.out w'' fun p h1 h2 => (hk p (by omega) (by omega)).trans ((grown_cell hgB (p := p) (by omega) fun e => by have := hvo _ e.symm; omega).trans (HX6.out.below.cell (by omega)))⟩
              have hr5 := HR6.out.grown hgB (fun e => by have := hvo _ e.symm; omega)
              have HRC := Lib.hid hr5
              have HT1 := Lib.hid (ht0.up ((Below.refl _ _).alloc (Nat.le_refl _) (.cells #[.slice VB (badV a.b (ints a.ks)).length VD, .int .i64 (a.d : Nat), .slice PA a.rows.length PC] 37)))
              have HV := Lib.hid (And.intro hv1 hv2)
              have HBC := Lib.hid (Below.then HB.out hbc (by omega))
              have b0 : wc.cell? ⟨w5.heap.size, 0, none⟩ = some (.int .i64 (a.d : Nat)) := hr5.cell 0
              have b1 : wc.cell? ⟨w5.heap.size, 1, none⟩ = some (.slice PA a.rows.length PC) := hr5.cell 1
              have hb5 : w5.heap.size < wc.heap.size := hr5.lt
              have HZI : Hid (Z.length ≤ 3600000000000) := by have := HZL.out; show _ ≤ _; omega
              have HLO := Lib.hid (own_lt HM.out.out)
              have HWZ : Hid (w.heap.size ≤ (wc.alloc (.cells #[.slice VB (badV a.b (ints a.ks)).length VD, .int .i64 (a.d : Nat), .slice PA a.rows.length PC] 37)).heap.size) := by show _ ≤ _; have := HBC.out.size; simp; omega
              have HSMALL := Lib.hid (rlRows_any (a.d : Nat))
              have HRO : Hid (RsOk a.rows ∧ a.rows.length ≤ 12) := ⟨by
                intro r hr
                exact rowsI_ok (n := a.d) (by omega) a.R r ((RL.mem_ofF _ _).1 hr), Nat.le_trans (RL.ofF_length_le _) (by rw [List.length_map]; omega)⟩
              generalize hvs : badV a.b (ints a.ks) = vs at *
              generalize hrows : a.rows = P at *
              have HVS : Hid (a.ra = ⟨vs, (a.d : Nat), P⟩) := by show LA.ra a = _; unfold LA.ra; rw [hvs, hrows]
              clear hownB hgB hv1 hv2 hv3 hbc ht0 hr5 hvs hrows
              have hzw5 : wo.heap.size < w5.heap.size := by have := HBO.out.size; omega
              go_wp2_with
                (at_builtin
                 first
                   | (refine app1LA rfl (.tmp 106) (.tmp 110) rfl w.heap.size u6 Z.length (Z.flatMap outC) rfl HT1.out.out wc.heap.size [.slice VB vs.length VD, .int .i64 (a.d : Nat), .slice PA P.length PC] rfl (Row.new wc 37 [.slice VB vs.length VD, .int .i64 (a.d : Nat), .slice PA P.length PC]) rfl (by simp [Value.oneCell']) HZI.out HWZ.out ?_
                      intro v7 w7 hown7 hg7 hat7
                      obtain ⟨A7, C7, rfl, -, -, -⟩ := own_slice hown7 (by decide)
                      have HT2 := Lib.hid (HT1.out.growO hown7 hg7 hat7)
                      have hr7 := (HRC.out.up ((Below.refl _ _).alloc (Nat.le_refl _) (.cells #[.slice VB vs.length VD, .int .i64 (a.d : Nat), .slice PA P.length PC] 37))).grown hg7 (fun e => by have := HLO.out _ e.symm; omega)
                      have b0 : w7.cell? ⟨w5.heap.size, 0, none⟩ = some (.int .i64 (a.d : Nat)) := hr7.cell 0
                      have b1 : w7.cell? ⟨w5.heap.size, 1, none⟩ = some (.slice PA P.length PC) := hr7.cell 1
                      have hb57 : w5.heap.size < w7.heap.size := hr7.lt
                      have hzc7 : wc.heap.size ≤ w7.heap.size := by have := hg7.size; simp at this; omega
                      have HB7 := Lib.hid ((HBC.out.alloc HBC.out.size (.cells #[.slice VB vs.length VD, .int .i64 (a.d : Nat), .slice PA P.length PC] 37)).grown hg7 HWZ.out (fun k hk => own_base HM.out.out hk))
                      have HRLR := Lib.hid (rlRows_any (a.d : Nat) PA PC P w7 (HT2.out.el.now.2.2.more (by have := HT2.out; omega)) HRO.out.1 (by have := HRO.out.2; omega))
                      clear hown7 hg7 hat7 hr7)
                   | fail)
              refine HRLR.out.mono ?_
              rintro e w8 ⟨g8, rfl, hm8, hb8⟩
              have HJ := Lib.hid (l7RowsJ_any (some ⟨g8, 0, none⟩) P.length P w8 hm8.sl (by have := HRO.out.2; omega) HRO.out.1)
              have HB8 := Lib.hid hb8
              have hz8 := hb8.size
              clear hm8 hb8 HRLR b0 b1
              go_wp2_with fail
              refine HJ.out.mono ?_
              rintro e w9 ⟨v9, rfl, hj9, hb9⟩
              obtain ⟨QA, QC, rfl, hq1, hq2, hq3⟩ := hj9.sl (P := fun b => w8.heap.size ≤ b) (fun _ h => h)
              have hz9 := hb9.size
              have HT3 := Lib.hid ((HT2.out.push (Below.then HB8.out hb9 hz8) (T := fun w'' => SlRs w9.heap.size w'' QA P) (fun w'' hk => (hq3.keep (fun p h1 h2 => hk p (by omega) h1)).sl)).up ((Below.refl _ _).alloc (Nat.le_refl _) (.cells #[.slice VB vs.length VD, .slice QA P.length QC] 44)))
              have HQ2 := Lib.hid (And.intro hq1 hq2)
              have HB9 := Lib.hid (Below.then HB7.out (Below.then HB8.out hb9 hz8) HB7.out.size)
              have hw9 := HB9.out.size
              clear hj9 hq1 hq2 hq3 hb9 HJ
              go_wp2_with
                (at_builtin
                 first
                   | (refine app1RA rfl (.tmp 112) (.tmp 118) rfl w.heap.size u7 Z.length (Z.flatMap refC) rfl HT3.out.ref w9.heap.size [.slice VB vs.length VD, .slice QA P.length QC] rfl (Row.new w9 44 [.slice VB vs.length VD, .slice QA P.length QC]) rfl (by simp [Value.oneCell']) HZI.out (by simp; omega) ?_
                      intro v10 w10 hown10 hg10 hat10
                      obtain ⟨A10, C10, rfl, -, -, -⟩ := own_slice hown10 (by decide)
                      have HB10 := Lib.hid ((HB9.out.alloc HB9.out.size (.cells #[.slice VB vs.length VD, .slice QA P.length QC] 44)).grown hg10 (by simp; omega) (fun k hk => own_base HT3.out.ref hk))
                      have hw10 := HB10.out.size
                      have HT4 := Lib.hid ((HT3.out.growM hown10 hg10 hat10).up ((Below.refl _ _).alloc (Nat.le_refl _) (.cells #[.int .i64 (a.d : Nat)] 3)))
                      have hz10 : w9.heap.size ≤ w10.heap.size := by have := hg10.size; simp at this; omega
                      clear hown10 hg10 hat10)
                   | (refine app1Int rfl (.tmp 120) (.tmp 122) rfl w.heap.size u8 Z.length (Z.flatMap arC) rfl HT4.out.ar w10.heap.size [.int .i64 (a.d : Nat)] rfl (Row.new w10 3 [.int .i64 (a.d : Nat)]) rfl (by simp [Value.oneCell']) HZI.out (by simp; omega) ?_
                      intro v12 w12 hown12 hg12 hat12
                      obtain ⟨A12, C12, rfl, -, -, -⟩ := own_slice hown12 (by decide)
                      have HB12 := Lib.hid ((HB10.out.alloc HB10.out.size (.cells #[.int .i64 (a.d : Nat)] 3)).grown hg12 (by simp; omega) (fun k hk => own_base HT4.out.ar hk))
                      have HT5 := Lib.hid (HT4.out.growA hown12 hg12 hat12)
                      have hz12 : w10.heap.size ≤ w12.heap.size := by have := hg12.size; simp at this; omega
                      clear hown12 hg12 hat12)
                   | fail)
              go_roundw
              case rel =>
                refine ⟨i + 1, h1, by go_num, fun x hx => ?_, ⟨Z ++ [(⟨vs, (a.d : Nat), P⟩, ⟨VB, VD, PA, PC, QA, QC⟩)], ?_, ?_⟩, HB12.out⟩
                · rw [HTK.out] at hx
                  rcases List.mem_append.1 hx with hx | hx
                  · exact HALL.out x hx
                  · simp at hx; subst hx; exact HOK.out
                · rw [HTK.out, List.map_append, List.map_append, HZ.out]
                  congr 1
                  show _ = [a.ra]
                  rw [HVS.out]
                  rfl
                · exact MadeI.step rfl HT5.out (by omega) (by omega) (by omega) (by omega) HM.out.ok ⟨HV.out.1, HV.out.2, HPC.out.1, HPC.out.2, HQ2.out.1, HQ2.out.2⟩
              case measure => simp [intOf]; omega

end Go.Proofs.YthgaflmldbgbnaaDoor
end

section
/- Walk: awake of chapter 35's laws. -/
namespace Go.Proofs.YthgaflmldbgbnaaDoor
open Go.RowKit Go.Sort

def j0 : List RL.R := [[valI 1, valI 2, valI 0], [valI 1, valI 3, valI 0]]
def four (t : List Nat) : List Value := [.int .u8 (t.getD 0 0 : Nat), .int .u8 (t.getD 1 0 : Nat), .int .u8 (t.getD 2 0 : Nat), .int .u8 (t.getD 3 0 : Nat)]
theorem slA_row {W : World} {b B : Nat} {T : TypeId} (X : List (List Nat)) (hr : Row W b T (X.flatMap four)) (hb : b < B) : SlA 4 B W (some ⟨b, 0, none⟩) X := fun _ => by
  refine ⟨b, 0, rfl, hb, fun i hi k hk => ?_⟩
  rw [Nat.zero_add]
  refine (hr.cell (i * 4 + k)).trans ((flat_get four 4 (fun _ => rfl) X i k hi hk).trans ?_)
  match k, hk with
  | 0, _ => rfl
  | 1, _ => rfl
  | 2, _ => rfl
  | 3, _ => rfl
end Go.Proofs.YthgaflmldbgbnaaDoor
end

section
/- Words for awake of chapter 36: arrays of three numbers compared. -/
namespace Go.Proofs.YthgaflmldbgbnaaDoor
open Go.RowKit Go.Sort

theorem eq3 (W : World) (a b c : Int) : (Op.equalIn 10000 71 (.agg #[.int .i64 a, .int .i64 b, .int .i64 c]) (.agg #[.int .i64 a, .int .i64 b, .int .i64 c])).run Tryd.prog W = .ok true W := by
  obtain ⟨i0, hi0⟩ : ∃ i, Tryd.prog.info? 2 = some i := Option.isSome_iff_exists.1 (by kernel_rfl)
  rw [run_equalIn_array W 9999 _ _ Tryd.underlying71 hi0]
  have hc : Tryd.prog.cellsOf 2 = 1 := by kernel_rfl
  have he : ∀ (x : Int) (V : World), (Op.equalIn 9999 2 (.int .i64 x) (.int .i64 x)).run Tryd.prog V = .ok true V := fun x V => by rw [run_equalIn_int V 9998 2 .i64 .i64 x x Tryd.underlying2]; simp
  simp [Op.eqItems, List.range_succ, part, go_sem, hc, he]

end Go.Proofs.YthgaflmldbgbnaaDoor
end

section
/- Walk of chapter 36: awake (regions 4 and 5 printed by tools/g32.py). -/
namespace Go.Proofs.YthgaflmldbgbnaaDoor
open Go.RowKit Go.Sort

def w36_1 (w : World) : World := w.alloc (.cells #[.int .u8 1, .int .u8 2, .int .u8 0, .int .u8 0, .int .u8 3, .int .u8 0, .int .u8 0, .int .u8 0] 62)
def w36_2 (w : World) : World := (w36_1 w).alloc (.cells #[.int .u8 2, .int .u8 1, .int .u8 0, .int .u8 0] 62)
def w36_3 (w : World) : World := (w36_2 w).alloc (.cells #[.int .u8 3, .slice (some ⟨w.heap.size, 0, none⟩) 2 2, .int .u8 0, .int .u8 6, .slice (some ⟨w.heap.size + 1, 0, none⟩) 1 1, .int .u8 0] 24)
theorem w36_ext (w : World) : Ext w (w36_3 w) := (((Ext.refl w).alloc _).alloc _).alloc _
theorem w36_mem (w : World) : AtsL (w36_3 w).heap.size (w36_3 w) (some ⟨w.heap.size + 1 + 1, 0, none⟩) x36 := fun _ => by
  have r1 : Row (w36_1 w) w.heap.size 62 ([[1, 2, 0, 0], [3, 0, 0, 0]].flatMap four) := Row.new w 62 _
  have r2 : Row (w36_2 w) (w.heap.size + 1) 62 ([[2, 1, 0, 0]].flatMap four) := by
    have h := Row.new (w36_1 w) 62 ([[2, 1, 0, 0]].flatMap four)
    rw [show (w36_1 w).heap.size = w.heap.size + 1 by unfold w36_1; simp] at h
    exact h
  have r3 : Row (w36_3 w) (w.heap.size + 1 + 1) 24 [.int .u8 3, .slice (some ⟨w.heap.size, 0, none⟩) 2 2, .int .u8 0, .int .u8 6, .slice (some ⟨w.heap.size + 1, 0, none⟩) 1 1, .int .u8 0] := by
    have h := Row.new (w36_2 w) 24 [.int .u8 3, .slice (some ⟨w.heap.size, 0, none⟩) 2 2, .int .u8 0, .int .u8 6, .slice (some ⟨w.heap.size + 1, 0, none⟩) 1 1, .int .u8 0]
    rw [show (w36_2 w).heap.size = w.heap.size + 1 + 1 by unfold w36_2 w36_1; simp] at h
    exact h
  have x12 : Ext (w36_1 w) (w36_2 w) := (Ext.refl _).alloc _
  have x23 : Ext (w36_2 w) (w36_3 w) := (Ext.refl _).alloc _
  have hz : (w36_3 w).heap.size = w.heap.size + 1 + 1 + 1 := by unfold w36_3 w36_2 w36_1; simp
  refine ⟨w.heap.size + 1 + 1, 0, rfl, by omega, fun i hi => ?_⟩
  match i, hi with
  | 0, _ => exact ⟨some ⟨w.heap.size, 0, none⟩, 2, r3.cell 0, r3.cell 1, r3.cell 2, slA_row _ ((r1.up x12.below).up x23.below) (by omega)⟩
  | 1, _ => exact ⟨some ⟨w.heap.size + 1, 0, none⟩, 1, r3.cell 3, r3.cell 4, r3.cell 5, slA_row _ (r2.up x23.below) (by omega)⟩
  | i + 2, hi => exact absurd hi (by show ¬ i + 2 < 2; omega)
/-- Two atoms side by side in a list. -/
theorem two_at {w : World} {A : Option Addr} {a b : At} (h : AtsM w.heap.size w A [a.ra, b.ra]) : ∃ bk o VA VC PA PC UA UC QA QC, A = some ⟨bk, o, none⟩ ∧ bk < w.heap.size ∧
    ((w.cell? ⟨bk, o, none⟩ = some (.slice VA a.vs.length VC) ∧ w.cell? ⟨bk, o + 1, none⟩ = some (.int .i64 (a.vs.length : Nat)) ∧ w.cell? ⟨bk, o + 2, none⟩ = some (.slice PA a.P.length PC)) ∧
      w.cell? ⟨bk, o + 3, none⟩ = some (.slice UA b.vs.length UC) ∧ w.cell? ⟨bk, o + 3 + 1, none⟩ = some (.int .i64 (b.vs.length : Nat)) ∧ w.cell? ⟨bk, o + 3 + 2, none⟩ = some (.slice QA b.P.length QC)) ∧
    AtV w (.agg #[.slice VA a.vs.length VC, .int .i64 (a.vs.length : Nat), .slice PA a.P.length PC]) a ∧ AtV w (.agg #[.slice UA b.vs.length UC, .int .i64 (b.vs.length : Nat), .slice QA b.P.length QC]) b := by
  obtain ⟨bk, o, e, hb, hc⟩ := h (by simp)
  have hl : ∀ c : At, c.ra.vs.length = c.vs.length := fun c => by unfold At.ra; simp
  obtain ⟨VA, VC, PA, PC, h1, h2, h3, d1, d2, d3, d4, h4, h5⟩ := hc 0 (by simp)
  obtain ⟨UA, UC, QA, QC, k1, k2, k3, f1, f2, f3, f4, k4, k5⟩ := hc 1 (by simp)
  simp only [List.getElem_cons_zero, List.getElem_cons_succ, hl, Nat.zero_mul, Nat.add_zero, Nat.one_mul] at h1 h2 h3 k1 k2 k3 d1 f1
  exact ⟨bk, o, VA, VC, PA, PC, UA, UC, QA, QC, e, hb, ⟨⟨h1, h2, h3⟩, k1, k2, k3⟩, ⟨VA, VC, PA, PC, rfl, d1, d2, d3, d4, h4, h5⟩, UA, UC, QA, QC, rfl, f1, f2, f3, f4, k4, k5⟩

theorem made36_any (w : World) : Calls Tryd.prog 5 #[.slice (some ⟨w.heap.size + 1 + 1, 0, none⟩) 2 2] (w36_3 w) fun e w' => ∃ A1 C1 A2 C2 A3 C3, e = .returned (.tuple #[.slice A1 2 C1, .slice A2 2 C2, .slice A3 2 C3, .bool true]) ∧ AtsM w'.heap.size w' A1 [xa0.ra, xa1.ra] ∧ Below w.heap.size w w' :=
  (l35Made_any (some ⟨w.heap.size + 1 + 1, 0, none⟩) 2 x36 (w36_3 w) (w36_mem w) x36_bytes (by decide)).mono fun e w' ⟨h1, _, hb⟩ => by
    obtain ⟨A1, C1, A2, C2, A3, C3, he, _, _, _, _, _, _, ha, _, _⟩ := h1 x36_ok
    rw [x36_ra] at ha
    exact ⟨A1, C1, A2, C2, A3, C3, he, ha, Below.then (w36_ext w).below hb (w36_ext w).size⟩

set_option maxHeartbeats 32000000 in
set_option maxRecDepth 100000 in
theorem l36awake_any (w : World) : Calls Tryd.prog 7 #[] w fun e w' => e = .returned (.bool true) ∧ Below w.heap.size w w' := by
  have HM := Lib.hid (made36_any w)
  go_enter Tryd.func7, Tryd.ntmps7
  go_wp2_with fail
  refine HM.out.mono ?_
  rintro e w1 ⟨A1, C1, A2, C2, A3, C3, rfl, ha, hb1⟩
  have HA := Lib.hid ha
  obtain ⟨b, o, VA, VC, PA, PC, UA, UC, QA, QC, rfl, hbl, hcs, hv0, hv1⟩ := two_at ha
  have HS : Hid (∀ W, Below w1.heap.size w1 W → (W.cell? ⟨b, o, none⟩ = some (.slice VA 2 VC) ∧ W.cell? ⟨b, o + 1, none⟩ = some (.int .i64 2) ∧ W.cell? ⟨b, o + 2, none⟩ = some (.slice PA 2 PC)) ∧ W.cell? ⟨b, o + 3, none⟩ = some (.slice UA 2 UC) ∧ W.cell? ⟨b, o + 3 + 1, none⟩ = some (.int .i64 2) ∧ W.cell? ⟨b, o + 3 + 2, none⟩ = some (.slice QA 1 QC)) := fun W h => by
    have hc : ∀ i, W.cell? ⟨b, i, none⟩ = w1.cell? ⟨b, i, none⟩ := fun i => h.cell (p := ⟨b, i, none⟩) hbl
    rw [hc, hc, hc, hc, hc, hc]
    exact hcs
  have HSJ : Hid (∀ W, Below w1.heap.size w1 W → Calls Tryd.prog 9 #[.agg #[.slice VA 2 VC, .int .i64 2, .slice PA 2 PC], .agg #[.slice UA 2 UC, .int .i64 2, .slice QA 1 QC]] W (XPost W 0 ⟨[0, 1], [[valI 1, valI 2]]⟩)) := fun W h => by
    have h1 := sjSemiX_any _ _ xa0.ra xa1.ra W (hv0.up h).ra (hv1.up h).ra (by decide) ⟨xa0.vs, semiF xa0 xa1⟩ fun W' hb _ _ => sjSemi_ok _ _ xa0 xa1 W' ((hv0.up h).up hb) ((hv1.up h).up hb) xa0_gd xa1_gd
    rw [x36_err, x36_semi] at h1
    exact h1
  have HJJ : Hid (∀ W, Below w1.heap.size w1 W → Calls Tryd.prog 8 #[.agg #[.slice VA 2 VC, .int .i64 2, .slice PA 2 PC], .agg #[.slice UA 2 UC, .int .i64 2, .slice QA 1 QC]] W (XPost W 0 ⟨[0, 1, 2], [[valI 1, valI 2, valI 1]]⟩)) := fun W h => by
    have h1 := sjJoinX_any _ _ xa0.ra xa1.ra W (hv0.up h).ra (hv1.up h).ra (by decide) (joinA (uniV xa0.vs xa1.vs) xa0 xa1) fun W' hb _ _ => sjJoin_ok _ _ xa0 xa1 W' ((hv0.up h).up hb) ((hv1.up h).up hb) xa0_gd xa1_gd (by
      refine Nat.le_trans (flat_le (n := 1) fun x _ => ?_) (by show 2 * 1 ≤ 60000; decide)
      rw [List.length_map]
      exact List.length_filter_le _ _)
    rw [x36_err, x36_join] at h1
    exact h1
  have HB1 := Lib.hid hb1
  have hbl2 := hbl
  clear hb1 ha hcs hv0 hv1 HM
  go_wp2_with fail
  go_upto_region 4 with (fail)
  go_cut [5, 6] from 33 to 42 (fun r e wx => ∃ g : Nat, r = .pointer (some ⟨g, 0, none⟩) ∧ e = .int .i64 (0) ∧ BoxA wx g (resA 0 ⟨[0, 1], [[valI 1, valI 2]]⟩) ∧ Below w1.heap.size w1 wx)
  case first =>
    refine wp_region_held_drew (S := (fun w' => (w'.cell? ⟨b, o, none⟩ = some (.slice VA 2 VC) ∧ w'.cell? ⟨b, o + 1, none⟩ = some (.int .i64 2) ∧ w'.cell? ⟨b, o + 2, none⟩ = some (.slice PA 2 PC)) ∧ w'.cell? ⟨b, o + 3, none⟩ = some (.slice UA 2 UC) ∧ w'.cell? ⟨b, o + 3 + 1, none⟩ = some (.int .i64 2) ∧ w'.cell? ⟨b, o + 3 + 2, none⟩ = some (.slice QA 1 QC))) (by kernel_rfl) (HS.out w1.drew (Below.refl _ _).drew) (fun hHeld => ?_)
    obtain ⟨V0, hV0⟩ : ∃ V, V = w1.drew := ⟨_, rfl⟩
    have HV : Hid (Below w1.heap.size w1 V0) := by show Below _ _ _; rw [hV0]; exact (Below.refl _ _).drew
    rw [← hV0] at hHeld ⊢
    clear hV0
    refine takeOp (i := 0) (v := ?_) (some 34) rfl rfl (by kernel_rfl) (by kernel_rfl) (by kernel_rfl) (fun _ _ _ h => h) (Or.inl ⟨by rfl, ?_⟩) (by assumption) ?_
    rotate_left 1
    · (intro w0 hSw; (try dsimp only at hSw); go_simp; try (with_reducible rfl))
    try simp only [Act.put]
    try simp only [List.setIfInBounds_toArray]
    try simp only [List.set_cons_succ]
    try simp only [List.set_cons_zero]
    refine takeOp (i := 1) (v := ?_) (some 35) rfl rfl (by kernel_rfl) (by kernel_rfl) (by kernel_rfl) (fun _ _ _ h => h) (Or.inl ⟨by rfl, ?_⟩) (by assumption) ?_
    rotate_left 1
    · (intro w0 hSw; (try dsimp only at hSw); go_simp; try (with_reducible rfl))
    try simp only [Act.put]
    try simp only [List.setIfInBounds_toArray]
    try simp only [List.set_cons_succ]
    try simp only [List.set_cons_zero]
    refine takeOp (i := 2) (v := ?_) (some 36) rfl rfl (by kernel_rfl) (by kernel_rfl) (by kernel_rfl) (fun _ _ _ h => h) (Or.inl ⟨by rfl, ?_⟩) (by assumption) ?_
    rotate_left 1
    · (intro w0 hSw; (try dsimp only at hSw); go_simp; try (with_reducible rfl))
    try simp only [Act.put]
    try simp only [List.setIfInBounds_toArray]
    try simp only [List.set_cons_succ]
    try simp only [List.set_cons_zero]
    refine takeOp (i := 3) (v := ?_) (some 37) rfl rfl (by kernel_rfl) (by kernel_rfl) (by kernel_rfl) (fun _ _ _ h => h) (Or.inl ⟨by rfl, ?_⟩) (by assumption) ?_
    rotate_left 1
    · (intro w0 hSw; (try dsimp only at hSw); go_simp; try (with_reducible rfl))
    try simp only [Act.put]
    try simp only [List.setIfInBounds_toArray]
    try simp only [List.set_cons_succ]
    try simp only [List.set_cons_zero]
    refine takeOp (i := 4) (v := ?_) (some 38) rfl rfl (by kernel_rfl) (by kernel_rfl) (by kernel_rfl) (fun _ _ _ h => h) (Or.inl ⟨by rfl, ?_⟩) (by assumption) ?_
    rotate_left 1
    · (intro w0 hSw; (try dsimp only at hSw); go_simp; try (with_reducible rfl))
    try simp only [Act.put]
    try simp only [List.setIfInBounds_toArray]
    try simp only [List.set_cons_succ]
    try simp only [List.set_cons_zero]
    refine takeOp (i := 5) (v := ?_) (some 39) rfl rfl (by kernel_rfl) (by kernel_rfl) (by kernel_rfl) (fun _ _ _ h => h) (Or.inl ⟨by rfl, ?_⟩) (by assumption) ?_
    rotate_left 1
    · (intro w0 hSw; (try dsimp only at hSw); go_simp; try (with_reducible rfl))
    try simp only [Act.put]
    try simp only [List.setIfInBounds_toArray]
    try simp only [List.set_cons_succ]
    try simp only [List.set_cons_zero]
    refine wpAnyH_ready (rs := [6, 10]) (by kernel_rfl) (by simp) ?_
    refine (AllReadyH.cons rfl (fun K hK => ?_) (AllReadyH.cons rfl (fun K hK => ?_) AllReadyH.nil))
    · go_simp
      refine (HSJ.out V0 HV.out).mono ?_
      rintro e V1 hp
      obtain ⟨SA, SC, TA, TC, rfl, hat, hb⟩ := hp.one
      have HAT := Lib.hid hat
      have HVS : Hid (w1.heap.size ≤ V0.heap.size) := HV.out.size
      have HV := Lib.hid (Below.then HV.out hb HV.out.size)
      clear hat hb hp
      go_wp2_with fail
      refine hK.out _ _ (HS.out V1 HV.out) (fun hHeld => ?_)
      clear hK K
      try simp only [Act.put]
      try simp only [List.setIfInBounds_toArray]
      try simp only [List.set_cons_succ]
      try simp only [List.set_cons_zero]
      refine takeOp (i := 7) (v := ?_) (some 33) rfl rfl (by kernel_rfl) (by kernel_rfl) (by kernel_rfl) (fun _ _ _ h => h) (Or.inl ⟨by rfl, ?_⟩) (by assumption) ?_
      rotate_left 1
      · (intro w0 hSw; (try dsimp only at hSw); go_simp; try (with_reducible rfl))
      try simp only [Act.put]
      try simp only [List.setIfInBounds_toArray]
      try simp only [List.set_cons_succ]
      try simp only [List.set_cons_zero]
      refine takeOp (i := 8) (v := ?_) (some 41) rfl rfl (by kernel_rfl) (by kernel_rfl) (by kernel_rfl) (fun _ _ _ h => h) (Or.inl ⟨by rfl, ?_⟩) (by assumption) ?_
      rotate_left 1
      · (intro w0 hSw; (try dsimp only at hSw); go_simp; try (with_reducible rfl))
      try simp only [Act.put]
      try simp only [List.setIfInBounds_toArray]
      try simp only [List.set_cons_succ]
      try simp only [List.set_cons_zero]
      refine takeOp (i := 9) (v := ?_) (some 42) rfl rfl (by kernel_rfl) (by kernel_rfl) (by kernel_rfl) (fun _ _ _ h => h) (Or.inl ⟨by rfl, ?_⟩) (by assumption) ?_
      rotate_left 1
      · (intro w0 hSw; (try dsimp only at hSw); go_simp; try (with_reducible rfl))
      try simp only [Act.put]
      try simp only [List.setIfInBounds_toArray]
      try simp only [List.set_cons_succ]
      try simp only [List.set_cons_zero]
      refine wpAnyH_ready (rs := [10]) (by kernel_rfl) (by simp) ?_
      refine (AllReadyH.cons rfl (fun K hK => ?_) AllReadyH.nil)
      go_simp
      obtain ⟨V2, hV⟩ : ∃ V', V' = V1.alloc (.cells #[.slice none 0 0, .int .i64 0, .slice none 0 0] 37) := ⟨_, rfl⟩
      rw [← hV]
      have hx : Ext V1 V2 := by rw [hV]; exact (Ext.refl V1).alloc _
      obtain ⟨gb, hgb⟩ : ∃ gb, gb = V1.heap.size := ⟨_, rfl⟩
      have HG : Hid (Row V2 gb 37 [.slice none 0 0, .int .i64 0, .slice none 0 0]) := by show Row _ _ _ _; rw [hV, hgb]; exact Row.new V1 _ _
      have HGZ : Hid (w1.heap.size ≤ gb ∧ gb + 1 = V2.heap.size ∧ gb = V1.heap.size) := ⟨by rw [hgb]; exact HV.out.size, by rw [hV, hgb]; simp, hgb⟩
      have HAT := Lib.hid (HAT.out.keep (P' := fun c => c < gb) (fun p hp _ => hx.below.cell hp) hx.size fun b hb _ => by rw [hgb]; exact hb)
      have HV := Lib.hid (Below.then HV.out hx.below HV.out.size)
      rw [← hgb]
      clear hx hV hgb
      refine hK.out _ _ (HS.out V2 HV.out) (fun hHeld => ?_)
      clear hK K
      try simp only [Act.put]
      try simp only [List.setIfInBounds_toArray]
      try simp only [List.set_cons_succ]
      try simp only [List.set_cons_zero]
      refine wpAnyH_ready (rs := [11]) (by kernel_rfl) (by simp) ?_
      refine (AllReadyH.cons rfl (fun K hK => ?_) AllReadyH.nil)
      have m0 := HG.out.frozen 0
      have m1 := HG.out.frozen 1
      have m2 := HG.out.frozen 2
      have m3 := HG.out.lt
      have n0 : V2.cell? ⟨gb, 0, none⟩ = some (.slice none 0 0) := HG.out.cell 0
      have n1 : V2.cell? ⟨gb, 1, none⟩ = some (.int .i64 0) := HG.out.cell 1
      have n2 : V2.cell? ⟨gb, 2, none⟩ = some (.slice none 0 0) := HG.out.cell 2
      go_simp
      go_wp2_with fail
      obtain ⟨V3, hV⟩ : ∃ V', V' = ((V2.setCell ⟨gb, 0, none⟩ (.slice SA (resA 0 ⟨[0, 1], [[valI 1, valI 2]]⟩).vs.length SC)).setCell ⟨gb, 1, none⟩ (.int .i64 ((resA 0 ⟨[0, 1], [[valI 1, valI 2]]⟩).vs.length : Nat))).setCell ⟨gb, 2, none⟩ (.slice TA (resA 0 ⟨[0, 1], [[valI 1, valI 2]]⟩).P.length TC) := ⟨_, rfl⟩
      rw [← hV]
      have HBX := Lib.hid (BoxA.put HG.out HAT.out (by show ¬ gb < gb; omega) hV)
      have hz := HGZ.out.1
      have HV : Hid (Below w1.heap.size w1 V3) := by show Below _ _ _; rw [hV]; exact ((HV.out.setCell (by show w1.heap.size ≤ gb; omega) _).setCell (by show w1.heap.size ≤ gb; omega) _).setCell (by show w1.heap.size ≤ gb; omega) _
      clear hV m0 m1 m2 m3 n0 n1 n2 hz
      refine hK.out _ _ (HS.out V3 HV.out) (fun hHeld => ?_)
      clear hK K
      try simp only [Act.put]
      try simp only [List.setIfInBounds_toArray]
      try simp only [List.set_cons_succ]
      try simp only [List.set_cons_zero]
      refine takeOp (i := 12) (v := ?_) (some 6) rfl rfl (by kernel_rfl) (by kernel_rfl) (by kernel_rfl) (fun _ _ _ h => h) (Or.inl ⟨by rfl, ?_⟩) (by assumption) ?_
      rotate_left 1
      · (intro w0 hSw; (try dsimp only at hSw); go_simp; try (with_reducible rfl))
      try simp only [Act.put]
      try simp only [List.setIfInBounds_toArray]
      try simp only [List.set_cons_succ]
      try simp only [List.set_cons_zero]
      refine wpAnyH_done (by kernel_rfl) ?_ _
      go_wp2_with fail
      go_meet
      case rel => exact ⟨gb, rfl, rfl, HBX.out, HV.out⟩
    · go_simp
      obtain ⟨V1, hV⟩ : ∃ V', V' = V0.alloc (.cells #[.slice none 0 0, .int .i64 0, .slice none 0 0] 37) := ⟨_, rfl⟩
      rw [← hV]
      have hx : Ext V0 V1 := by rw [hV]; exact (Ext.refl V0).alloc _
      obtain ⟨gb, hgb⟩ : ∃ gb, gb = V0.heap.size := ⟨_, rfl⟩
      have HG : Hid (Row V1 gb 37 [.slice none 0 0, .int .i64 0, .slice none 0 0]) := by show Row _ _ _ _; rw [hV, hgb]; exact Row.new V0 _ _
      have HGZ : Hid (w1.heap.size ≤ gb ∧ gb + 1 = V1.heap.size ∧ gb = V0.heap.size) := ⟨by rw [hgb]; exact HV.out.size, by rw [hV, hgb]; simp, hgb⟩
      have HV := Lib.hid (Below.then HV.out hx.below HV.out.size)
      rw [← hgb]
      clear hx hV hgb
      refine hK.out _ _ (HS.out V1 HV.out) (fun hHeld => ?_)
      clear hK K
      try simp only [Act.put]
      try simp only [List.setIfInBounds_toArray]
      try simp only [List.set_cons_succ]
      try simp only [List.set_cons_zero]
      refine wpAnyH_ready (rs := [6]) (by kernel_rfl) (by simp) ?_
      refine (AllReadyH.cons rfl (fun K hK => ?_) AllReadyH.nil)
      go_simp
      refine (HSJ.out V1 HV.out).mono ?_
      rintro e V2 hp
      obtain ⟨SA, SC, TA, TC, rfl, hat, hb⟩ := hp.one
      have HAT := Lib.hid hat
      have HVS : Hid (w1.heap.size ≤ V1.heap.size) := HV.out.size
      have HG := Lib.hid (HG.out.up hb)
      have HV := Lib.hid (Below.then HV.out hb HV.out.size)
      clear hat hb hp
      go_wp2_with fail
      refine hK.out _ _ (HS.out V2 HV.out) (fun hHeld => ?_)
      clear hK K
      try simp only [Act.put]
      try simp only [List.setIfInBounds_toArray]
      try simp only [List.set_cons_succ]
      try simp only [List.set_cons_zero]
      refine takeOp (i := 7) (v := ?_) (some 33) rfl rfl (by kernel_rfl) (by kernel_rfl) (by kernel_rfl) (fun _ _ _ h => h) (Or.inl ⟨by rfl, ?_⟩) (by assumption) ?_
      rotate_left 1
      · (intro w0 hSw; (try dsimp only at hSw); go_simp; try (with_reducible rfl))
      try simp only [Act.put]
      try simp only [List.setIfInBounds_toArray]
      try simp only [List.set_cons_succ]
      try simp only [List.set_cons_zero]
      refine takeOp (i := 8) (v := ?_) (some 41) rfl rfl (by kernel_rfl) (by kernel_rfl) (by kernel_rfl) (fun _ _ _ h => h) (Or.inl ⟨by rfl, ?_⟩) (by assumption) ?_
      rotate_left 1
      · (intro w0 hSw; (try dsimp only at hSw); go_simp; try (with_reducible rfl))
      try simp only [Act.put]
      try simp only [List.setIfInBounds_toArray]
      try simp only [List.set_cons_succ]
      try simp only [List.set_cons_zero]
      refine takeOp (i := 9) (v := ?_) (some 42) rfl rfl (by kernel_rfl) (by kernel_rfl) (by kernel_rfl) (fun _ _ _ h => h) (Or.inl ⟨by rfl, ?_⟩) (by assumption) ?_
      rotate_left 1
      · (intro w0 hSw; (try dsimp only at hSw); go_simp; try (with_reducible rfl))
      try simp only [Act.put]
      try simp only [List.setIfInBounds_toArray]
      try simp only [List.set_cons_succ]
      try simp only [List.set_cons_zero]
      refine wpAnyH_ready (rs := [11]) (by kernel_rfl) (by simp) ?_
      refine (AllReadyH.cons rfl (fun K hK => ?_) AllReadyH.nil)
      have m0 := HG.out.frozen 0
      have m1 := HG.out.frozen 1
      have m2 := HG.out.frozen 2
      have m3 := HG.out.lt
      have n0 : V2.cell? ⟨gb, 0, none⟩ = some (.slice none 0 0) := HG.out.cell 0
      have n1 : V2.cell? ⟨gb, 1, none⟩ = some (.int .i64 0) := HG.out.cell 1
      have n2 : V2.cell? ⟨gb, 2, none⟩ = some (.slice none 0 0) := HG.out.cell 2
      go_simp
      go_wp2_with fail
      obtain ⟨V3, hV⟩ : ∃ V', V' = ((V2.setCell ⟨gb, 0, none⟩ (.slice SA (resA 0 ⟨[0, 1], [[valI 1, valI 2]]⟩).vs.length SC)).setCell ⟨gb, 1, none⟩ (.int .i64 ((resA 0 ⟨[0, 1], [[valI 1, valI 2]]⟩).vs.length : Nat))).setCell ⟨gb, 2, none⟩ (.slice TA (resA 0 ⟨[0, 1], [[valI 1, valI 2]]⟩).P.length TC) := ⟨_, rfl⟩
      rw [← hV]
      have HBX := Lib.hid (BoxA.put HG.out HAT.out (by have := HGZ.out; show ¬ _ + 3 ≤ gb; omega) hV)
      have hz := HGZ.out.1
      have HV : Hid (Below w1.heap.size w1 V3) := by show Below _ _ _; rw [hV]; exact ((HV.out.setCell (by show w1.heap.size ≤ gb; omega) _).setCell (by show w1.heap.size ≤ gb; omega) _).setCell (by show w1.heap.size ≤ gb; omega) _
      clear hV m0 m1 m2 m3 n0 n1 n2 hz
      refine hK.out _ _ (HS.out V3 HV.out) (fun hHeld => ?_)
      clear hK K
      try simp only [Act.put]
      try simp only [List.setIfInBounds_toArray]
      try simp only [List.set_cons_succ]
      try simp only [List.set_cons_zero]
      refine takeOp (i := 12) (v := ?_) (some 6) rfl rfl (by kernel_rfl) (by kernel_rfl) (by kernel_rfl) (fun _ _ _ h => h) (Or.inl ⟨by rfl, ?_⟩) (by assumption) ?_
      rotate_left 1
      · (intro w0 hSw; (try dsimp only at hSw); go_simp; try (with_reducible rfl))
      try simp only [Act.put]
      try simp only [List.setIfInBounds_toArray]
      try simp only [List.set_cons_succ]
      try simp only [List.set_cons_zero]
      refine wpAnyH_done (by kernel_rfl) ?_ _
      go_wp2_with fail
      go_meet
      case rel => exact ⟨gb, rfl, rfl, HBX.out, HV.out⟩
  case rest =>
    obtain ⟨g5, rfl, rfl, hbx, hbw⟩ := hcut
    generalize wc = wA at *
    have HBXA := Lib.hid hbx
    have HBA := Lib.hid hbw
    have HSA : Hid (∀ W, Below wA.heap.size wA W → (W.cell? ⟨b, o, none⟩ = some (.slice VA 2 VC) ∧ W.cell? ⟨b, o + 1, none⟩ = some (.int .i64 2) ∧ W.cell? ⟨b, o + 2, none⟩ = some (.slice PA 2 PC)) ∧ W.cell? ⟨b, o + 3, none⟩ = some (.slice UA 2 UC) ∧ W.cell? ⟨b, o + 3 + 1, none⟩ = some (.int .i64 2) ∧ W.cell? ⟨b, o + 3 + 2, none⟩ = some (.slice QA 1 QC)) := fun W h => HS.out W (Below.then HBA.out h HBA.out.size)
    have HJA := Lib.hid (fun W (h : Below wA.heap.size wA W) => HJJ.out W (Below.then HBA.out h HBA.out.size))
    have hbl : b < wA.heap.size := Nat.lt_of_lt_of_le hbl2 HBA.out.size
    clear hbx hbw
    go_upto_region 5 with (fail)
    go_cut [7, 8] from 43 to 52 (fun r e wx => ∃ g : Nat, r = .pointer (some ⟨g, 0, none⟩) ∧ e = .int .i64 (0) ∧ BoxA wx g (resA 0 ⟨[0, 1, 2], [[valI 1, valI 2, valI 1]]⟩) ∧ Below wA.heap.size wA wx)
    case first =>
      refine wp_region_held_drew (S := (fun w' => (w'.cell? ⟨b, o, none⟩ = some (.slice VA 2 VC) ∧ w'.cell? ⟨b, o + 1, none⟩ = some (.int .i64 2) ∧ w'.cell? ⟨b, o + 2, none⟩ = some (.slice PA 2 PC)) ∧ w'.cell? ⟨b, o + 3, none⟩ = some (.slice UA 2 UC) ∧ w'.cell? ⟨b, o + 3 + 1, none⟩ = some (.int .i64 2) ∧ w'.cell? ⟨b, o + 3 + 2, none⟩ = some (.slice QA 1 QC))) (by kernel_rfl) (HSA.out wA.drew (Below.refl _ _).drew) (fun hHeld => ?_)
      obtain ⟨V0, hV0⟩ : ∃ V, V = wA.drew := ⟨_, rfl⟩
      have HV : Hid (Below wA.heap.size wA V0) := by show Below _ _ _; rw [hV0]; exact (Below.refl _ _).drew
      rw [← hV0] at hHeld ⊢
      clear hV0
      refine takeOp (i := 0) (v := ?_) (some 44) rfl rfl (by kernel_rfl) (by kernel_rfl) (by kernel_rfl) (fun _ _ _ h => h) (Or.inl ⟨by rfl, ?_⟩) (by assumption) ?_
      rotate_left 1
      · (intro w0 hSw; (try dsimp only at hSw); go_simp; try (with_reducible rfl))
      try simp only [Act.put]
      try simp only [List.setIfInBounds_toArray]
      try simp only [List.set_cons_succ]
      try simp only [List.set_cons_zero]
      refine takeOp (i := 1) (v := ?_) (some 45) rfl rfl (by kernel_rfl) (by kernel_rfl) (by kernel_rfl) (fun _ _ _ h => h) (Or.inl ⟨by rfl, ?_⟩) (by assumption) ?_
      rotate_left 1
      · (intro w0 hSw; (try dsimp only at hSw); go_simp; try (with_reducible rfl))
      try simp only [Act.put]
      try simp only [List.setIfInBounds_toArray]
      try simp only [List.set_cons_succ]
      try simp only [List.set_cons_zero]
      refine takeOp (i := 2) (v := ?_) (some 46) rfl rfl (by kernel_rfl) (by kernel_rfl) (by kernel_rfl) (fun _ _ _ h => h) (Or.inl ⟨by rfl, ?_⟩) (by assumption) ?_
      rotate_left 1
      · (intro w0 hSw; (try dsimp only at hSw); go_simp; try (with_reducible rfl))
      try simp only [Act.put]
      try simp only [List.setIfInBounds_toArray]
      try simp only [List.set_cons_succ]
      try simp only [List.set_cons_zero]
      refine takeOp (i := 3) (v := ?_) (some 47) rfl rfl (by kernel_rfl) (by kernel_rfl) (by kernel_rfl) (fun _ _ _ h => h) (Or.inl ⟨by rfl, ?_⟩) (by assumption) ?_
      rotate_left 1
      · (intro w0 hSw; (try dsimp only at hSw); go_simp; try (with_reducible rfl))
      try simp only [Act.put]
      try simp only [List.setIfInBounds_toArray]
      try simp only [List.set_cons_succ]
      try simp only [List.set_cons_zero]
      refine takeOp (i := 4) (v := ?_) (some 48) rfl rfl (by kernel_rfl) (by kernel_rfl) (by kernel_rfl) (fun _ _ _ h => h) (Or.inl ⟨by rfl, ?_⟩) (by assumption) ?_
      rotate_left 1
      · (intro w0 hSw; (try dsimp only at hSw); go_simp; try (with_reducible rfl))
      try simp only [Act.put]
      try simp only [List.setIfInBounds_toArray]
      try simp only [List.set_cons_succ]
      try simp only [List.set_cons_zero]
      refine takeOp (i := 5) (v := ?_) (some 49) rfl rfl (by kernel_rfl) (by kernel_rfl) (by kernel_rfl) (fun _ _ _ h => h) (Or.inl ⟨by rfl, ?_⟩) (by assumption) ?_
      rotate_left 1
      · (intro w0 hSw; (try dsimp only at hSw); go_simp; try (with_reducible rfl))
      try simp only [Act.put]
      try simp only [List.setIfInBounds_toArray]
      try simp only [List.set_cons_succ]
      try simp only [List.set_cons_zero]
      refine wpAnyH_ready (rs := [6, 10]) (by kernel_rfl) (by simp) ?_
      refine (AllReadyH.cons rfl (fun K hK => ?_) (AllReadyH.cons rfl (fun K hK => ?_) AllReadyH.nil))
      · go_simp
        refine (HJA.out V0 HV.out).mono ?_
        rintro e V1 hp
        obtain ⟨SA, SC, TA, TC, rfl, hat, hb⟩ := hp.one
        have HAT := Lib.hid hat
        have HVS : Hid (wA.heap.size ≤ V0.heap.size) := HV.out.size
        have HV := Lib.hid (Below.then HV.out hb HV.out.size)
        clear hat hb hp
        go_wp2_with fail
        refine hK.out _ _ (HSA.out V1 HV.out) (fun hHeld => ?_)
        clear hK K
        try simp only [Act.put]
        try simp only [List.setIfInBounds_toArray]
        try simp only [List.set_cons_succ]
        try simp only [List.set_cons_zero]
        refine takeOp (i := 7) (v := ?_) (some 43) rfl rfl (by kernel_rfl) (by kernel_rfl) (by kernel_rfl) (fun _ _ _ h => h) (Or.inl ⟨by rfl, ?_⟩) (by assumption) ?_
        rotate_left 1
        · (intro w0 hSw; (try dsimp only at hSw); go_simp; try (with_reducible rfl))
        try simp only [Act.put]
        try simp only [List.setIfInBounds_toArray]
        try simp only [List.set_cons_succ]
        try simp only [List.set_cons_zero]
        refine takeOp (i := 8) (v := ?_) (some 51) rfl rfl (by kernel_rfl) (by kernel_rfl) (by kernel_rfl) (fun _ _ _ h => h) (Or.inl ⟨by rfl, ?_⟩) (by assumption) ?_
        rotate_left 1
        · (intro w0 hSw; (try dsimp only at hSw); go_simp; try (with_reducible rfl))
        try simp only [Act.put]
        try simp only [List.setIfInBounds_toArray]
        try simp only [List.set_cons_succ]
        try simp only [List.set_cons_zero]
        refine takeOp (i := 9) (v := ?_) (some 52) rfl rfl (by kernel_rfl) (by kernel_rfl) (by kernel_rfl) (fun _ _ _ h => h) (Or.inl ⟨by rfl, ?_⟩) (by assumption) ?_
        rotate_left 1
        · (intro w0 hSw; (try dsimp only at hSw); go_simp; try (with_reducible rfl))
        try simp only [Act.put]
        try simp only [List.setIfInBounds_toArray]
        try simp only [List.set_cons_succ]
        try simp only [List.set_cons_zero]
        refine wpAnyH_ready (rs := [10]) (by kernel_rfl) (by simp) ?_
        refine (AllReadyH.cons rfl (fun K hK => ?_) AllReadyH.nil)
        go_simp
        obtain ⟨V2, hV⟩ : ∃ V', V' = V1.alloc (.cells #[.slice none 0 0, .int .i64 0, .slice none 0 0] 37) := ⟨_, rfl⟩
        rw [← hV]
        have hx : Ext V1 V2 := by rw [hV]; exact (Ext.refl V1).alloc _
        obtain ⟨gb, hgb⟩ : ∃ gb, gb = V1.heap.size := ⟨_, rfl⟩
        have HG : Hid (Row V2 gb 37 [.slice none 0 0, .int .i64 0, .slice none 0 0]) := by show Row _ _ _ _; rw [hV, hgb]; exact Row.new V1 _ _
        have HGZ : Hid (wA.heap.size ≤ gb ∧ gb + 1 = V2.heap.size ∧ gb = V1.heap.size) := ⟨by rw [hgb]; exact HV.out.size, by rw [hV, hgb]; simp, hgb⟩
        have HAT := Lib.hid (HAT.out.keep (P' := fun c => c < gb) (fun p hp _ => hx.below.cell hp) hx.size fun b hb _ => by rw [hgb]; exact hb)
        have HV := Lib.hid (Below.then HV.out hx.below HV.out.size)
        rw [← hgb]
        clear hx hV hgb
        refine hK.out _ _ (HSA.out V2 HV.out) (fun hHeld => ?_)
        clear hK K
        try simp only [Act.put]
        try simp only [List.setIfInBounds_toArray]
        try simp only [List.set_cons_succ]
        try simp only [List.set_cons_zero]
        refine wpAnyH_ready (rs := [11]) (by kernel_rfl) (by simp) ?_
        refine (AllReadyH.cons rfl (fun K hK => ?_) AllReadyH.nil)
        have m0 := HG.out.frozen 0
        have m1 := HG.out.frozen 1
        have m2 := HG.out.frozen 2
        have m3 := HG.out.lt
        have n0 : V2.cell? ⟨gb, 0, none⟩ = some (.slice none 0 0) := HG.out.cell 0
        have n1 : V2.cell? ⟨gb, 1, none⟩ = some (.int .i64 0) := HG.out.cell 1
        have n2 : V2.cell? ⟨gb, 2, none⟩ = some (.slice none 0 0) := HG.out.cell 2
        go_simp
        go_wp2_with fail
        obtain ⟨V3, hV⟩ : ∃ V', V' = ((V2.setCell ⟨gb, 0, none⟩ (.slice SA (resA 0 ⟨[0, 1, 2], [[valI 1, valI 2, valI 1]]⟩).vs.length SC)).setCell ⟨gb, 1, none⟩ (.int .i64 ((resA 0 ⟨[0, 1, 2], [[valI 1, valI 2, valI 1]]⟩).vs.length : Nat))).setCell ⟨gb, 2, none⟩ (.slice TA (resA 0 ⟨[0, 1, 2], [[valI 1, valI 2, valI 1]]⟩).P.length TC) := ⟨_, rfl⟩
        rw [← hV]
        have HBX := Lib.hid (BoxA.put HG.out HAT.out (by show ¬ gb < gb; omega) hV)
        have hz := HGZ.out.1
        have HV : Hid (Below wA.heap.size wA V3) := by show Below _ _ _; rw [hV]; exact ((HV.out.setCell (by show wA.heap.size ≤ gb; omega) _).setCell (by show wA.heap.size ≤ gb; omega) _).setCell (by show wA.heap.size ≤ gb; omega) _
        clear hV m0 m1 m2 m3 n0 n1 n2 hz
        refine hK.out _ _ (HSA.out V3 HV.out) (fun hHeld => ?_)
        clear hK K
        try simp only [Act.put]
        try simp only [List.setIfInBounds_toArray]
        try simp only [List.set_cons_succ]
        try simp only [List.set_cons_zero]
        refine takeOp (i := 12) (v := ?_) (some 8) rfl rfl (by kernel_rfl) (by kernel_rfl) (by kernel_rfl) (fun _ _ _ h => h) (Or.inl ⟨by rfl, ?_⟩) (by assumption) ?_
        rotate_left 1
        · (intro w0 hSw; (try dsimp only at hSw); go_simp; try (with_reducible rfl))
        try simp only [Act.put]
        try simp only [List.setIfInBounds_toArray]
        try simp only [List.set_cons_succ]
        try simp only [List.set_cons_zero]
        refine wpAnyH_done (by kernel_rfl) ?_ _
        go_wp2_with fail
        go_meet
        case rel => exact ⟨gb, rfl, rfl, HBX.out, HV.out⟩
      · go_simp
        obtain ⟨V1, hV⟩ : ∃ V', V' = V0.alloc (.cells #[.slice none 0 0, .int .i64 0, .slice none 0 0] 37) := ⟨_, rfl⟩
        rw [← hV]
        have hx : Ext V0 V1 := by rw [hV]; exact (Ext.refl V0).alloc _
        obtain ⟨gb, hgb⟩ : ∃ gb, gb = V0.heap.size := ⟨_, rfl⟩
        have HG : Hid (Row V1 gb 37 [.slice none 0 0, .int .i64 0, .slice none 0 0]) := by show Row _ _ _ _; rw [hV, hgb]; exact Row.new V0 _ _
        have HGZ : Hid (wA.heap.size ≤ gb ∧ gb + 1 = V1.heap.size ∧ gb = V0.heap.size) := ⟨by rw [hgb]; exact HV.out.size, by rw [hV, hgb]; simp, hgb⟩
        have HV := Lib.hid (Below.then HV.out hx.below HV.out.size)
        rw [← hgb]
        clear hx hV hgb
        refine hK.out _ _ (HSA.out V1 HV.out) (fun hHeld => ?_)
        clear hK K
        try simp only [Act.put]
        try simp only [List.setIfInBounds_toArray]
        try simp only [List.set_cons_succ]
        try simp only [List.set_cons_zero]
        refine wpAnyH_ready (rs := [6]) (by kernel_rfl) (by simp) ?_
        refine (AllReadyH.cons rfl (fun K hK => ?_) AllReadyH.nil)
        go_simp
        refine (HJA.out V1 HV.out).mono ?_
        rintro e V2 hp
        obtain ⟨SA, SC, TA, TC, rfl, hat, hb⟩ := hp.one
        have HAT := Lib.hid hat
        have HVS : Hid (wA.heap.size ≤ V1.heap.size) := HV.out.size
        have HG := Lib.hid (HG.out.up hb)
        have HV := Lib.hid (Below.then HV.out hb HV.out.size)
        clear hat hb hp
        go_wp2_with fail
        refine hK.out _ _ (HSA.out V2 HV.out) (fun hHeld => ?_)
        clear hK K
        try simp only [Act.put]
        try simp only [List.setIfInBounds_toArray]
        try simp only [List.set_cons_succ]
        try simp only [List.set_cons_zero]
        refine takeOp (i := 7) (v := ?_) (some 43) rfl rfl (by kernel_rfl) (by kernel_rfl) (by kernel_rfl) (fun _ _ _ h => h) (Or.inl ⟨by rfl, ?_⟩) (by assumption) ?_
        rotate_left 1
        · (intro w0 hSw; (try dsimp only at hSw); go_simp; try (with_reducible rfl))
        try simp only [Act.put]
        try simp only [List.setIfInBounds_toArray]
        try simp only [List.set_cons_succ]
        try simp only [List.set_cons_zero]
        refine takeOp (i := 8) (v := ?_) (some 51) rfl rfl (by kernel_rfl) (by kernel_rfl) (by kernel_rfl) (fun _ _ _ h => h) (Or.inl ⟨by rfl, ?_⟩) (by assumption) ?_
        rotate_left 1
        · (intro w0 hSw; (try dsimp only at hSw); go_simp; try (with_reducible rfl))
        try simp only [Act.put]
        try simp only [List.setIfInBounds_toArray]
        try simp only [List.set_cons_succ]
        try simp only [List.set_cons_zero]
        refine takeOp (i := 9) (v := ?_) (some 52) rfl rfl (by kernel_rfl) (by kernel_rfl) (by kernel_rfl) (fun _ _ _ h => h) (Or.inl ⟨by rfl, ?_⟩) (by assumption) ?_
        rotate_left 1
        · (intro w0 hSw; (try dsimp only at hSw); go_simp; try (with_reducible rfl))
        try simp only [Act.put]
        try simp only [List.setIfInBounds_toArray]
        try simp only [List.set_cons_succ]
        try simp only [List.set_cons_zero]
        refine wpAnyH_ready (rs := [11]) (by kernel_rfl) (by simp) ?_
        refine (AllReadyH.cons rfl (fun K hK => ?_) AllReadyH.nil)
        have m0 := HG.out.frozen 0
        have m1 := HG.out.frozen 1
        have m2 := HG.out.frozen 2
        have m3 := HG.out.lt
        have n0 : V2.cell? ⟨gb, 0, none⟩ = some (.slice none 0 0) := HG.out.cell 0
        have n1 : V2.cell? ⟨gb, 1, none⟩ = some (.int .i64 0) := HG.out.cell 1
        have n2 : V2.cell? ⟨gb, 2, none⟩ = some (.slice none 0 0) := HG.out.cell 2
        go_simp
        go_wp2_with fail
        obtain ⟨V3, hV⟩ : ∃ V', V' = ((V2.setCell ⟨gb, 0, none⟩ (.slice SA (resA 0 ⟨[0, 1, 2], [[valI 1, valI 2, valI 1]]⟩).vs.length SC)).setCell ⟨gb, 1, none⟩ (.int .i64 ((resA 0 ⟨[0, 1, 2], [[valI 1, valI 2, valI 1]]⟩).vs.length : Nat))).setCell ⟨gb, 2, none⟩ (.slice TA (resA 0 ⟨[0, 1, 2], [[valI 1, valI 2, valI 1]]⟩).P.length TC) := ⟨_, rfl⟩
        rw [← hV]
        have HBX := Lib.hid (BoxA.put HG.out HAT.out (by have := HGZ.out; show ¬ _ + 3 ≤ gb; omega) hV)
        have hz := HGZ.out.1
        have HV : Hid (Below wA.heap.size wA V3) := by show Below _ _ _; rw [hV]; exact ((HV.out.setCell (by show wA.heap.size ≤ gb; omega) _).setCell (by show wA.heap.size ≤ gb; omega) _).setCell (by show wA.heap.size ≤ gb; omega) _
        clear hV m0 m1 m2 m3 n0 n1 n2 hz
        refine hK.out _ _ (HSA.out V3 HV.out) (fun hHeld => ?_)
        clear hK K
        try simp only [Act.put]
        try simp only [List.setIfInBounds_toArray]
        try simp only [List.set_cons_succ]
        try simp only [List.set_cons_zero]
        refine takeOp (i := 12) (v := ?_) (some 8) rfl rfl (by kernel_rfl) (by kernel_rfl) (by kernel_rfl) (fun _ _ _ h => h) (Or.inl ⟨by rfl, ?_⟩) (by assumption) ?_
        rotate_left 1
        · (intro w0 hSw; (try dsimp only at hSw); go_simp; try (with_reducible rfl))
        try simp only [Act.put]
        try simp only [List.setIfInBounds_toArray]
        try simp only [List.set_cons_succ]
        try simp only [List.set_cons_zero]
        refine wpAnyH_done (by kernel_rfl) ?_ _
        go_wp2_with fail
        go_meet
        case rel => exact ⟨gb, rfl, rfl, HBX.out, HV.out⟩
    case rest =>
      obtain ⟨g7, rfl, rfl, hbx, hbw⟩ := hcut
      generalize wc = wB at *
      have HBXB := Lib.hid hbx
      have HBXA2 := Lib.hid (HBXA.out.up hbw)
      have HBB : Hid (Below w1.heap.size w1 wB) := Below.then HBA.out hbw HBA.out.size
      clear hbx hbw hbl HSA HJA HBXA
      have hx6 : Ext wB (wB.alloc (.cells #[.int .i64 (-1), .int .i64 0] 3)) := (Ext.refl wB).alloc _
      have hr6 := Row.new wB 3 [.int .i64 (-1), .int .i64 0]
      have HA6 := HA.out.upB (Below.then HBB.out hx6.below HBB.out.size)
      have hev := sjEvaluate_any (some ⟨wB.heap.size, 0, none⟩) (some ⟨b, o, none⟩) 2 C1 [-1, 0] [xa0.ra, xa1.ra] 5 (wB.alloc (.cells #[.int .i64 (-1), .int .i64 0] 3)) HA6 (by decide) x36_small (fun _ => ⟨wB.heap.size, 0, rfl, hr6.lt, fun j u hu => by rw [Nat.zero_add, hr6.cell j]; exact hu⟩) (by decide) (by decide) (fun _ => x36_few)
      have HEV := Lib.hid hev
      have HX6 := Lib.hid hx6
      clear hev hx6 hr6 HA6 HA HS HSJ HJJ
      go_wp2_with fail
      refine HEV.out.mono ?_
      rintro e w6 ⟨-, -, h3, hb6⟩
      obtain ⟨v, a, rfl, hat, hef⟩ := h3 x36_tree x36_keep
      have ha := x36_eval hef
      subst ha
      have HAT := Lib.hid hat
      obtain ⟨KA, KC, LA', LC, he, -⟩ := hat
      replace he : v = .agg #[.slice KA 2 KC, .int .i64 2, .slice LA' 1 LC] := he
      subst he
      have HB6 : Hid (Below wB.heap.size wB w6) := Below.then HX6.out.below hb6 HX6.out.size
      obtain ⟨W7, hW7⟩ : ∃ W, W = w6.alloc (.cells #[.slice KA 2 KC, .int .i64 2, .slice LA' 1 LC] 37) := ⟨_, rfl⟩
      obtain ⟨g9, hg9⟩ : ∃ g, g = w6.heap.size := ⟨_, rfl⟩
      have hx7 : Ext w6 W7 := by rw [hW7]; exact (Ext.refl w6).alloc _
      have hr9 : Row W7 g9 37 [.slice KA 2 KC, .int .i64 2, .slice LA' 1 LC] := by rw [hW7, hg9]; exact Row.new w6 _ _
      have HR9 := Lib.hid hr9
      have HAT7 := Lib.hid (HAT.out.up hx7.below)
      have HB7 : Hid (Below wB.heap.size wB W7) := Below.then HB6.out hx7.below HB6.out.size
      have HG9E := Lib.hid hg9
      have HW7E := Lib.hid hW7
      clear h3 hb6 hef HEV HX6 hW7 hg9 hx7 hr9
      go_upto_region 7 with (fail)
      rw [← HW7E.out, ← HG9E.out]
      clear HW7E HG9E HB6 HAT
      obtain ⟨P5A, P5C, P5P, P5D, r5, v5⟩ := (HBXA2.out.up HB7.out)
      obtain ⟨P7A, P7C, P7P, P7D, r7, v7⟩ := (HBXB.out.up HB7.out)
      have HV5 : Hid (AtV W7 (.agg #[.slice P5A 2 P5C, .int .i64 2, .slice P5P 1 P5D]) ⟨[0, 1], [[valI 1, valI 2]]⟩) := v5
      have HV7 : Hid (AtV W7 (.agg #[.slice P7A 3 P7C, .int .i64 3, .slice P7P 1 P7D]) ⟨[0, 1, 2], [[valI 1, valI 2, valI 1]]⟩) := v7
      have HV9 : Hid (AtV W7 (.agg #[.slice KA 2 KC, .int .i64 2, .slice LA' 1 LC]) ⟨[0, 2], [[valI 1, valI 1]]⟩) := HAT7.out
      have hup : ∀ W, Below W7.heap.size W7 W → ((W.cell? ⟨g5, 0, none⟩ = some (.slice P5A 2 P5C) ∧ W.cell? ⟨g5, 1, none⟩ = some (.int .i64 2) ∧ W.cell? ⟨g5, 2, none⟩ = some (.slice P5P 1 P5D) ∧ g5 < W.heap.size) ∧ (W.cell? ⟨g7, 0, none⟩ = some (.slice P7A 3 P7C) ∧ W.cell? ⟨g7, 1, none⟩ = some (.int .i64 3) ∧ W.cell? ⟨g7, 2, none⟩ = some (.slice P7P 1 P7D) ∧ g7 < W.heap.size)) ∧ (W.cell? ⟨g9, 0, none⟩ = some (.slice KA 2 KC) ∧ W.cell? ⟨g9, 1, none⟩ = some (.int .i64 2) ∧ W.cell? ⟨g9, 2, none⟩ = some (.slice LA' 1 LC) ∧ g9 < W.heap.size) := fun W h =>
        ⟨⟨⟨(r5.up h).cell 0, (r5.up h).cell 1, (r5.up h).cell 2, (r5.up h).lt⟩, (r7.up h).cell 0, (r7.up h).cell 1, (r7.up h).cell 2, (r7.up h).lt⟩, (HR9.out.up h).cell 0, (HR9.out.up h).cell 1, (HR9.out.up h).cell 2, (HR9.out.up h).lt⟩
      have HUP := Lib.hid hup
      have hgd : ∀ {vs : List Nat} {r : RL.R}, vs.Pairwise (· < ·) → (∀ v ∈ vs, v < 32) → r.length = vs.length → (∀ c ∈ r, IsI c) → Gd ⟨vs, [r]⟩ := fun h1 h2 h3 h4 => ⟨h1, h2, fun r hr => by rw [List.mem_singleton.1 hr]; exact h3, ss_one _, fun r hr => by rw [List.mem_singleton.1 hr]; exact h4, by show 1 ≤ 60000; omega⟩
      have hI : ∀ {r : List Nat}, ∀ c ∈ r.map valI, IsI c := fun c hc => by obtain ⟨x, -, rfl⟩ := List.mem_map.1 hc; exact ⟨x, rfl⟩
      have H5 : Hid (∀ W, Below W7.heap.size W7 W → Calls Tryd.prog 21 #[.agg #[.slice P5A 2 P5C, .int .i64 2, .slice P5P 1 P5D]] W fun e w' => e = .returned (.agg #[.int .i64 1, .int .i64 2, .int .i64 0]) ∧ Below W.heap.size W w') := fun W h => l36awake1_any _ ⟨[0, 1], [[valI 1, valI 2]]⟩ W (HV5.out.up h) (hgd (by decide) (by decide) rfl (hI (r := [1, 2])))
      have H7 : Hid (∀ W, Below W7.heap.size W7 W → Calls Tryd.prog 21 #[.agg #[.slice P7A 3 P7C, .int .i64 3, .slice P7P 1 P7D]] W fun e w' => e = .returned (.agg #[.int .i64 1, .int .i64 2, .int .i64 1]) ∧ Below W.heap.size W w') := fun W h => l36awake1_any _ ⟨[0, 1, 2], [[valI 1, valI 2, valI 1]]⟩ W (HV7.out.up h) (hgd (by decide) (by decide) rfl (hI (r := [1, 2, 1])))
      have H9 : Hid (∀ W, Below W7.heap.size W7 W → Calls Tryd.prog 21 #[.agg #[.slice KA 2 KC, .int .i64 2, .slice LA' 1 LC]] W fun e w' => e = .returned (.agg #[.int .i64 1, .int .i64 1, .int .i64 0]) ∧ Below W.heap.size W w') := fun W h => l36awake1_any _ ⟨[0, 2], [[valI 1, valI 1]]⟩ W (HV9.out.up h) (hgd (by decide) (by decide) rfl (hI (r := [1, 1])))
      have HBW : Hid (Below w.heap.size w W7) := Below.then HB1.out (Below.then HBB.out HB7.out HBB.out.size) HB1.out.size
      clear r5 v5 r7 v7 hgd hI HR9 HAT7 HBXA2 HBXB hup HV5 HV7 HV9 HB7 HBB HBA HB1
      obtain ⟨⟨⟨a0, a1, a2, a3⟩, b0, b1, b2, b3⟩, d0, d1, d2, d3⟩ := HUP.out W7 (Below.refl _ _)
      have hq1 := fun W => eq3 W 1 2 0
      have hq2 := fun W => eq3 W 1 2 1
      have hq3 := fun W => eq3 W 1 1 0
      go_wp2_with fail
      refine (rlLen_any 2 P5P 1 P5D W7).mono ?_
      rintro e u0 ⟨rfl, hx⟩
      have HU0 : Hid (Below W7.heap.size W7 u0) := Below.then (Below.refl W7.heap.size W7) hx.below ((Below.refl W7.heap.size W7)).size
      clear hx a0 a1 a2 a3 b0 b1 b2 b3 d0 d1 d2 d3
      obtain ⟨⟨⟨a0, a1, a2, a3⟩, b0, b1, b2, b3⟩, d0, d1, d2, d3⟩ := HUP.out u0 HU0.out
      go_wp2_with fail
      refine (H5.out u0 HU0.out).mono ?_
      rintro e u1 ⟨rfl, hb⟩
      have HU1 : Hid (Below W7.heap.size W7 u1) := Below.then HU0.out hb (HU0.out).size
      clear hb a0 a1 a2 a3 b0 b1 b2 b3 d0 d1 d2 d3
      obtain ⟨⟨⟨a0, a1, a2, a3⟩, b0, b1, b2, b3⟩, d0, d1, d2, d3⟩ := HUP.out u1 HU1.out
      go_wp2_with fail
      refine (rlLen_any 3 P7P 1 P7D u1).mono ?_
      rintro e u2 ⟨rfl, hx⟩
      have HU2 : Hid (Below W7.heap.size W7 u2) := Below.then HU1.out hx.below (HU1.out).size
      clear hx a0 a1 a2 a3 b0 b1 b2 b3 d0 d1 d2 d3
      obtain ⟨⟨⟨a0, a1, a2, a3⟩, b0, b1, b2, b3⟩, d0, d1, d2, d3⟩ := HUP.out u2 HU2.out
      go_wp2_with fail
      refine (H7.out u2 HU2.out).mono ?_
      rintro e u3 ⟨rfl, hb⟩
      have HU3 : Hid (Below W7.heap.size W7 u3) := Below.then HU2.out hb (HU2.out).size
      clear hb a0 a1 a2 a3 b0 b1 b2 b3 d0 d1 d2 d3
      obtain ⟨⟨⟨a0, a1, a2, a3⟩, b0, b1, b2, b3⟩, d0, d1, d2, d3⟩ := HUP.out u3 HU3.out
      go_wp2_with fail
      refine (rlLen_any 2 LA' 1 LC u3).mono ?_
      rintro e u4 ⟨rfl, hx⟩
      have HU4 : Hid (Below W7.heap.size W7 u4) := Below.then HU3.out hx.below (HU3.out).size
      clear hx a0 a1 a2 a3 b0 b1 b2 b3 d0 d1 d2 d3
      obtain ⟨⟨⟨a0, a1, a2, a3⟩, b0, b1, b2, b3⟩, d0, d1, d2, d3⟩ := HUP.out u4 HU4.out
      go_wp2_with fail
      refine (H9.out u4 HU4.out).mono ?_
      rintro e u5 ⟨rfl, hb⟩
      have HU5 : Hid (Below W7.heap.size W7 u5) := Below.then HU4.out hb (HU4.out).size
      clear hb a0 a1 a2 a3 b0 b1 b2 b3 d0 d1 d2 d3
      obtain ⟨⟨⟨a0, a1, a2, a3⟩, b0, b1, b2, b3⟩, d0, d1, d2, d3⟩ := HUP.out u5 HU5.out
      go_wp2_with fail
      go_ret
      exact ⟨rfl, Below.then HBW.out HU5.out HBW.out.size⟩

end Go.Proofs.YthgaflmldbgbnaaDoor
end

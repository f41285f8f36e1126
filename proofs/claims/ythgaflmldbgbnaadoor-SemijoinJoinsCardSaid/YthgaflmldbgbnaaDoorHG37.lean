/- Words for the laws of two atoms of chapter 36. -/
import Derived.Test.YthgaflmldbgbnaaDoorQ13
import Derived.Test.YthgaflmldbgbnaaDoorHGY6
namespace Go.Proofs.YthgaflmldbgbnaaDoor
open Go.RowKit Go.Sort

theorem made37_any (a b : LA) (R1 R2 : Option Addr) (D1 D2 : Nat) (w W1 : World) (hA : SlA 4 w.heap.size w R1 a.R) (hB : SlA 4 w.heap.size w R2 b.R) (ha : a.v < 256 ∧ a.b < 256 ∧ Bytes a.R) (hb : b.v < 256 ∧ b.b < 256 ∧ Bytes b.R)
    (hW1 : W1 = ((w.alloc (.cells #[.int .u8 (a.v : Nat), .slice R1 a.R.length D1, .int .u8 (a.b : Nat)] 24)).alloc (.cells #[.int .u8 (b.v : Nat), .slice R2 b.R.length D2, .int .u8 (b.b : Nat)] 24)).alloc (.cells #[.int .u8 (a.v : Nat), .slice R1 a.R.length D1, .int .u8 (a.b : Nat), .int .u8 (b.v : Nat), .slice R2 b.R.length D2, .int .u8 (b.b : Nat)] 24)) :
    Calls Tryd.prog 5 #[.slice (some ⟨w.heap.size + 1 + 1, 0, none⟩) 2 2] W1 fun e w' => Below w.heap.size w w' ∧ (e = .returned (.tuple #[.slice none 0 0, .slice none 0 0, .slice none 0 0, .bool false]) ∨ ∃ (A1 A2 A3 : Option Addr) (C1 C2 C3 : Nat), e = .returned (.tuple #[.slice A1 2 C1, .slice A2 2 C2, .slice A3 2 C3, .bool true]) ∧
      (a.Ok ∧ b.Ok) ∧ AtsM w'.heap.size w' A1 [a.ra, b.ra] ∧ AtsR w'.heap.size w' A2 [a.ra, b.ra] ∧ SlI .i64 w'.heap.size w' A3 [a.ra.ar, b.ra.ar]) := by
  have hx : Ext w W1 := by rw [hW1]; exact (((Ext.refl w).alloc _).alloc _).alloc _
  have hr : Row W1 (w.heap.size + 1 + 1) 24 [.int .u8 (a.v : Nat), .slice R1 a.R.length D1, .int .u8 (a.b : Nat), .int .u8 (b.v : Nat), .slice R2 b.R.length D2, .int .u8 (b.b : Nat)] := by
    have h := Row.new ((w.alloc (.cells #[.int .u8 (a.v : Nat), .slice R1 a.R.length D1, .int .u8 (a.b : Nat)] 24)).alloc (.cells #[.int .u8 (b.v : Nat), .slice R2 b.R.length D2, .int .u8 (b.b : Nat)] 24)) 24 [.int .u8 (a.v : Nat), .slice R1 a.R.length D1, .int .u8 (a.b : Nat), .int .u8 (b.v : Nat), .slice R2 b.R.length D2, .int .u8 (b.b : Nat)]
    rw [World.size_alloc, World.size_alloc] at h
    rw [hW1]; exact h
  have hm : AtsL W1.heap.size W1 (some ⟨w.heap.size + 1 + 1, 0, none⟩) [a, b] := fun _ => by
    refine ⟨w.heap.size + 1 + 1, 0, rfl, hr.lt, fun i hi => ?_⟩
    have up : ∀ {R : Option Addr} {Y : List (List Nat)}, SlA 4 w.heap.size w R Y → SlA 4 W1.heap.size W1 R Y := fun h => SlA.upB h hx.below
    match i, hi with
    | 0, _ => exact ⟨R1, D1, hr.cell 0, hr.cell 1, hr.cell 2, up hA⟩
    | 1, _ => exact ⟨R2, D2, hr.cell 3, hr.cell 4, hr.cell 5, up hB⟩
    | i + 2, hi => exact absurd hi (by show ¬ i + 2 < 2; omega)
  refine (l35Made_any _ 2 [a, b] W1 hm (fun c hc => ?_) (by show 2 ≤ _; omega)).mono fun e w' ⟨h1, h2, hbw⟩ => ⟨Below.then hx.below hbw hx.size, ?_⟩
  · rcases List.mem_cons.1 hc with rfl | hc
    · exact ha
    · rw [List.mem_singleton.1 hc]; exact hb
  by_cases h : ∀ c ∈ [a, b], c.Ok
  · obtain ⟨A1, C1, A2, C2, A3, C3, he, -, -, -, -, -, -, k1, k2, k3⟩ := h1 h
    exact .inr ⟨A1, A2, A3, C1, C2, C3, he, ⟨h a (by simp), h b (by simp)⟩, k1, k2, k3⟩
  · exact .inl (h2 h)
theorem errC_gd {al : List At} (h : ∀ a ∈ al, Gd a) (hl : al.length ≤ 32) : errC (al.map At.ra) = 0 := by
  unfold errC
  rw [if_neg (by rw [List.length_map]; omega)]
  have : (al.map At.ra).find? (fun a => errAt 32 a != 0) = none := List.find?_eq_none.2 fun r hr => by
    obtain ⟨a, ha, rfl⟩ := List.mem_map.1 hr
    simp [(h a ha).err0]
  rw [this]
theorem joinL_le {a b : At} (ha : Gd a) (hb : Gd b) (hm : (joinR [a, b]).P.length ≤ 60000) : (joinL (uniV a.vs b.vs) a b).length ≤ 60000 := by
  have h1 := join_ref ha hb
  rw [joinA_list ha hb] at h1
  have h2 : RL.ofF (joinL (uniV a.vs b.vs) a b) = (joinR [a, b]).P := congrArg At.P h1
  refine Nat.le_trans (nodupR_le (joinL_nodup (nodup_of_asc (uniV_asc _ _)) (mem_uniV ha.lt hb.lt) ha hb) fun z hz => ?_) hm
  rw [← h2]
  exact (RL.mem_ofF _ _).2 hz
/-- Two made atoms without error. -/
theorem good_pair {x y : LA} (hx : x.Ok) (hy : y.Ok) (he : errC [x.ra, y.ra] = 0) : ∃ a b : At, [x.ra, y.ra] = [a.ra, b.ra] ∧ Gd a ∧ Gd b ∧ (joinR [a, b]).P.length ≤ 60000 ∧ (unionV [a, b]).length ≤ 8 := by
  have hok : ∀ c ∈ [x, y], c.Ok := fun c hc => by
    rcases List.mem_cons.1 hc with rfl | hc
    · exact hx
    · rw [List.mem_singleton.1 hc]; exact hy
  have hz := (errC_zero he).2
  have hs := LA.smalls hok
  have g1 := Gd.of (hs x.ra (by simp)) (hz _ (by simp))
  have g2 := Gd.of (hs y.ra (by simp)) (hz _ (by simp))
  have hF := few_made hok (by simp) he (fun i => (([x, y].map LA.ra).map RA.at).getD i ⟨[], []⟩) rfl
  have t1 := made_thin hx (hz _ (by simp))
  have t2 := made_thin hy (hz _ (by simp))
  refine ⟨x.ra.at, y.ra.at, ?_, g1, g2, joinR_many (gd2 g1 g2) (by simp) (X := fun i => [x.ra.at, y.ra.at].getD i ⟨[], []⟩) rfl hF, ?_⟩
  · rw [RA.good (hz _ (by simp)), RA.good (hz _ (by simp))]
  · have h : ∀ v ∈ unionV [x.ra.at, y.ra.at], v ∈ List.range 8 := fun v hv => by
      obtain ⟨c, hc, hvc⟩ := (mem_unionV (gd2 g1 g2) v).1 hv
      rw [List.mem_range]
      rcases List.mem_cons.1 hc with rfl | hc
      · exact t1.2 v hvc
      · rw [List.mem_singleton.1 hc] at hvc; exact t2.2 v hvc
    have := nodupN_le (unionV_nodup _) h
    simpa using this
section
variable {a b : At} {w : World} {va vb : Value} (ga : Gd a) (gb : Gd b) (hm : (joinR [a, b]).P.length ≤ 60000)
include ga gb
theorem semiX_any (ha : AtV w va a) (hb : AtV w vb b) : Calls Tryd.prog 9 #[va, vb] w (XPost w 0 ⟨a.vs, semiF a b⟩) := by
  have h1 := sjSemiX_any va vb a.ra b.ra w ha.ra hb.ra ⟨by have := ga.vl; unfold At.ra; simp only [List.length_map]; omega, by have := gb.vl; unfold At.ra; simp only [List.length_map]; omega⟩ ⟨a.vs, semiF a b⟩ fun W' h _ _ => sjSemi_ok va vb a b W' (ha.up h) (hb.up h) ga gb
  rw [show errC [a.ra, b.ra] = 0 from errC_gd (gd2 ga gb) (by simp)] at h1
  exact h1
include hm
theorem joinX_any (ha : AtV w va a) (hb : AtV w vb b) : Calls Tryd.prog 8 #[va, vb] w (XPost w 0 (joinR [a, b])) := by
  have h1 := sjJoinX_any va vb a.ra b.ra w ha.ra hb.ra ⟨by have := ga.vl; unfold At.ra; simp only [List.length_map]; omega, by have := gb.vl; unfold At.ra; simp only [List.length_map]; omega⟩ (joinA (uniV a.vs b.vs) a b) fun W' h _ _ => sjJoin_ok va vb a b W' (ha.up h) (hb.up h) ga gb (joinL_le ga gb hm)
  rw [show errC [a.ra, b.ra] = 0 from errC_gd (gd2 ga gb) (by simp), join_ref ga gb] at h1
  exact h1
end
theorem joinR_gd2 {a b : At} (ga : Gd a) (gb : Gd b) (hm : (joinR [a, b]).P.length ≤ 60000) : Gd (joinR [a, b]) where
  asc := unionV_asc _
  lt := fun _ hv => unionV_lt hv
  len := fun r hr => ((mem_joinR (gd2 ga gb) (by simp) r).1 hr).1
  ss := joinR_ss (gd2 ga gb) (by simp)
  I := joinR_I (gd2 ga gb) (by simp)
  many := hm
/-- Two equal atoms in the form of the reference. -/
theorem same36 {a : At} (ga : Gd a) {w : World} {vx vy : Value} (hx : RefV w vx (a.vs.map Int.ofNat) a.P) (hy : RefV w vy (a.vs.map Int.ofNat) a.P) : Calls Tryd.prog 10 #[vx, vy] w fun e w' => e = .returned (.bool true) ∧ Below w.heap.size w w' := by
  have hv : (a.vs.map Int.ofNat).length ≤ 1000000 := by rw [List.length_map]; have := ga.vl; omega
  have hP : a.P.length ≤ 1000000 := by have := ga.many; omega
  refine (r36Same_any vx vy _ _ _ _ w hx hy hv hv hP hP ga.rsOk ga.rsOk).mono fun e w' ⟨h1, h2⟩ => ⟨by rw [h1, decide_eq_true ⟨rfl, rfl⟩], h2⟩

end Go.Proofs.YthgaflmldbgbnaaDoor

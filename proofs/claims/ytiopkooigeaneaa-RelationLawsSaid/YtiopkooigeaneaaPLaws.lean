/- Proved: for every input, ordinallaw07.RelationLaws returns true and leaves its arguments as they were. No condition. -/
import Derived.Test.YtiopkooigeaneaaM9
import Derived.Test.YtiopkooigeaneaaF7
namespace Go.Proofs.Ytiopkooigeaneaa.relationLaws
open Go.ChangeShapes Go.WideShapes Go.ChangeAt Go.RowKit Go.Joins

theorem own : ownKnob Try.prog.godebug = none := by kernel_rfl
theorem laidOut : laidOutB Try.prog = true := by kernel_rfl

set_option maxRecDepth 100000 in
theorem lifted (os : Os) (started : os.Started) (H : Type) (enc : TypeId × Value → H) :
    ReturnsInHanded {} Try.checked os 10 .any (Rows.relationLawsSpec.pre6 enc Try.prog Try.f10 Rows.relationLawsRow.domain false) (Rows.relationLawsSpec.post enc Try.prog Try.f10 false true false false) := by
  refine returnsInHanded_of_change_sized (C := Try.checked) own started (by kernel_rfl) Try.func10
    (ChangeSpec.witness6 (enc := enc) (C := Try.checked) false ⟨#[], #[.slice none 0 0, .slice none 0 0, .slice none 0 0], []⟩ 8 (by kernel_rfl) (by kernel_rfl) (by kernel_rfl) (by kernel_rfl)) ?_
  intro W base args ds gs before hval0 hW hcnd hsz0 _
  have hsz : (DataW.weightsEach Try.prog (Try.f10.params.toList ++ Rows.relationLawsSpec.plain.varTypes Try.prog) (ds ++ gs)).all (· ≤ reachBytes) = true := hsz0
  have hval : ∀ (j : Nat) t v, Try.f10.params[j]? = some t → args[j]? = some v → Value.okWide Try.prog W .any base t v := hval0
  have hW' := hW
  obtain ⟨p, q, hA0, hV, rfl, hfz, hnd⟩ := hW
  have hA : DataW.TrodAll enc Try.prog W 0 (fun _ => true) true Try.f10.params.toList args.toList ds p := hA0
  rw [Try.params10] at hA hval hsz
  obtain ⟨v0, vs0, d0, ds0, p0, q0, hargs, rfl, rfl, h0, r0⟩ := trodAll_cons hA
  obtain ⟨v1, vs1, d1, ds1, p1, q1, rfl, rfl, rfl, h1, r1⟩ := trodAll_cons r0
  obtain ⟨v2, vs2, d2, ds2, p2, q2, rfl, rfl, rfl, h2, r2⟩ := trodAll_cons r1
  obtain ⟨rfl, rfl, rfl⟩ := trodAll_nil r2
  obtain rfl : args = #[v0, v1, v2] := by cases args; simp_all
  obtain ⟨rfl, rfl⟩ := trodVars_none hV
  have k0 := h0
  have lt0 : ∀ x ∈ p0, x.block < W.heap.size := by obtain ⟨m, hm⟩ := k0; exact DataW.trod_lt m _ _ _ hm
  obtain ⟨A0, len0, C0, rfl⟩ := okWide_slice Try.underlying22 (hval 0 22 v0 rfl rfl)
  obtain ⟨m0, hm0⟩ := h0
  obtain ⟨A0', C0', X0, e0, hs0, hl0, hc0, hb0, hcap0⟩ := open_rows hm0
  simp [Value.cells] at e0
  obtain ⟨rfl, rfl, rfl⟩ := e0
  have hz0 : X0.length * 24 ≤ 140737488351232 := by
    rcases hcap0 with h | ⟨es, sp, hd, hsum⟩
    · omega
    · have hd' : d0 = .slice es sp := hd
      have h := sized_slice hsz (j := 0) (t := 22) (e := 24) (elems := es) (spare := sp) rfl (by rw [hd']; rfl) Try.underlying22
      rw [show Try.prog.bytesOf 24 = 24 by kernel_rfl] at h
      unfold reachBytes at h
      omega
  have k1 := h1
  have lt1 : ∀ x ∈ p1, x.block < W.heap.size := by obtain ⟨m, hm⟩ := k1; exact DataW.trod_lt m _ _ _ hm
  obtain ⟨A1, len1, C1, rfl⟩ := okWide_slice Try.underlying22 (hval 1 22 v1 rfl rfl)
  obtain ⟨m1, hm1⟩ := h1
  obtain ⟨A1', C1', X1, e1, hs1, hl1, hc1, hb1, hcap1⟩ := open_rows hm1
  simp [Value.cells] at e1
  obtain ⟨rfl, rfl, rfl⟩ := e1
  have hz1 : X1.length * 24 ≤ 140737488351232 := by
    rcases hcap1 with h | ⟨es, sp, hd, hsum⟩
    · omega
    · have hd' : d1 = .slice es sp := hd
      have h := sized_slice hsz (j := 1) (t := 22) (e := 24) (elems := es) (spare := sp) rfl (by rw [hd']; rfl) Try.underlying22
      rw [show Try.prog.bytesOf 24 = 24 by kernel_rfl] at h
      unfold reachBytes at h
      omega
  have k2 := h2
  have lt2 : ∀ x ∈ p2, x.block < W.heap.size := by obtain ⟨m, hm⟩ := k2; exact DataW.trod_lt m _ _ _ hm
  obtain ⟨A2, len2, C2, rfl⟩ := okWide_slice Try.underlying22 (hval 2 22 v2 rfl rfl)
  obtain ⟨m2, hm2⟩ := h2
  obtain ⟨A2', C2', X2, e2, hs2, hl2, hc2, hb2, hcap2⟩ := open_rows hm2
  simp [Value.cells] at e2
  obtain ⟨rfl, rfl, rfl⟩ := e2
  have hz2 : X2.length * 24 ≤ 140737488351232 := by
    rcases hcap2 with h | ⟨es, sp, hd, hsum⟩
    · omega
    · have hd' : d2 = .slice es sp := hd
      have h := sized_slice hsz (j := 2) (t := 22) (e := 24) (elems := es) (spare := sp) rfl (by rw [hd']; rfl) Try.underlying22
      rw [show Try.prog.bytesOf 24 = 24 by kernel_rfl] at h
      unfold reachBytes at h
      omega
  clear hA0 hval0
  refine (laws_walk A0 A1 A2 C0 C1 C2 X0 X1 X2 W hs0 ⟨hz0, hb0⟩ hs1 ⟨hz1, hb1⟩ hs2 ⟨hz2, hb2⟩).mono fun e W' ⟨he, bel⟩ => ?_
  subst he
  exact ⟨_, rfl, _, _, _, [], _, [], hW', trodAll_mk1 (shut_bool Try.underlying4 _), (trodAll_cons_mk (Below.trod laidOut (by kernel_rfl) (of_decide_eq_true (by kernel_rfl)) k0 bel lt0) (trodAll_cons_mk (Below.trod laidOut (by kernel_rfl) (of_decide_eq_true (by kernel_rfl)) k1 bel lt1) (trodAll_cons_mk (Below.trod laidOut (by kernel_rfl) (of_decide_eq_true (by kernel_rfl)) k2 bel lt2) trodAll_mk0))), rfl, bel.frame _, fun h => by cases h⟩

theorem over : Rows.relationLawsRow.holds Try.pinned (OpenSpec.ofChange Rows.relationLawsSpec) :=
  OpenClaim.holds_of_wide 10 Try.f10 rfl rfl rfl rfl rfl rfl rfl ⟨rfl, rfl, rfl, rfl, rfl⟩ rfl rfl rfl rfl rfl (by kernel_rfl) Try.func10 (by kernel_rfl)
    (of_decide_eq_true (by kernel_rfl)) (by unfold Func.isWrapper; first | (rw [if_pos (by decide +kernel)]; kernel_rfl) | (rw [if_neg (by decide +kernel)]; exact ⟨rfl, rfl⟩))
    (fun os started H enc _ => lifted os started H enc)

theorem proved : Rows.RelationLawsSaid := over
#print axioms proved
end Go.Proofs.Ytiopkooigeaneaa.relationLaws

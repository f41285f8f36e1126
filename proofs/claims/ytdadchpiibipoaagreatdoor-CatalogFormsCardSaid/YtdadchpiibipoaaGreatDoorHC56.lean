/- Walk: the law CatalogForms. -/
import Derived.Test.YtdadchpiibipoaaGreatDoorQ13
import Derived.Test.YtdadchpiibipoaaGreatDoorQ12
import Derived.Test.YtdadchpiibipoaaGreatDoorQ6
namespace Go.Proofs.YtdadchpiibipoaaGreatDoor
open Go.RowKit Go.Sort Go.ChangeMaps Go.WideShapes

theorem rowsW_take2 {X : List RL.R} {j : Nat} (h : j < X.length) : rowsW (X.take (j + 1)) = rowsW (X.take j) ++ (textR X[j] ++ [10]) := by
  unfold rowsW
  rw [List.take_succ_eq_append_getElem h, List.flatMap_append]
  simp
theorem kinds_take {ks : List Int} {j : Nat} (h : j < ks.length) : (ks.take (j + 1)).flatMap kindW = (ks.take j).flatMap kindW ++ kindW ks[j] := by
  rw [List.take_succ_eq_append_getElem h, List.flatMap_append]
  simp
theorem textD_take {S : Sch} {F : Cont} {ns : List ByteArray} {i : Nat} (h : i < ns.length) : textD S F (ns.take (i + 1)) = textD S F (ns.take i) ++ textRel ns[i] (kindsOf S ns[i]) (F ns[i]) := by
  unfold textD
  rw [List.take_succ_eq_append_getElem h, List.flatMap_append]
  simp
theorem made_contOk (S : Sch) (us : List Upd) : ContOk S (madeF S us).1 := by
  have key : ∀ (us : List Upd) (d : Cont × List Fact), ContOk S d.1 → ContOk S (us.foldl (madeS S) d).1 := fun us => by
    induction us with
    | nil => exact fun d h => h
    | cons u us ih =>
      intro d h
      refine ih _ ?_
      unfold madeS
      split
      · exact h.step u
      · exact h
  exact key us (fun _ => [], []) ContOk.zero
theorem made_vals (S : Sch) (Q : RL.V → Prop) (us : List Upd) (hu : ∀ u ∈ us, ∀ v ∈ u.row, Q v) : ∀ f ∈ (madeF S us).2, ∀ v ∈ f.2, Q v := by
  have key : ∀ (us : List Upd) (d : Cont × List Fact), (∀ u ∈ us, ∀ v ∈ u.row, Q v) → (∀ f ∈ d.2, ∀ v ∈ f.2, Q v) → ∀ f ∈ (us.foldl (madeS S) d).2, ∀ v ∈ f.2, Q v := fun us => by
    induction us with
    | nil => exact fun d _ h => h
    | cons u us ih =>
      intro d hu h
      refine ih _ (fun v hv => hu v (List.mem_cons_of_mem _ hv)) ?_
      unfold madeS
      split
      · unfold refU
        split
        · split
          · exact fun f hf => h f (List.mem_filter.1 hf).1
          · intro f hf
            rcases List.mem_append.1 hf with hf | hf
            · exact h f hf
            · rw [List.mem_singleton.1 hf]; exact hu u List.mem_cons_self
        · exact h
      · exact h
  exact key us (fun _ => [], []) hu fun f hf => (by cases hf)
theorem checkE_len {ks : List Int} {x : RL.R} (h : checkE ks x = 0) : x.length = ks.length := by
  unfold checkE at h
  split at h
  · cases h
  · rename_i h1; simpa using h1
theorem made_fit {S : Sch} (hE : errS S = 0) {F : Cont} {Fs : List Fact} (hc : ContOk S F) (hr : RelF F Fs) (hv : ∀ f ∈ Fs, ∀ v ∈ f.2, VFit v) : RowsFit S F := fun p hp => by
  obtain ⟨-, hnd, hm⟩ := errS_mem hE
  obtain ⟨-, h2, h3⟩ := hc p hp
  refine ⟨(hm p hp).2.1, h2, fun x hx => ⟨?_, fun v hvx => hv _ ((hr.2.2 p.1 x).1 hx) v hvx⟩⟩
  have h4 := h3 x hx
  rw [checkF_at hnd hp] at h4
  rw [checkE_len h4]
  exact (hm p hp).2.1
end Go.Proofs.YtdadchpiibipoaaGreatDoor

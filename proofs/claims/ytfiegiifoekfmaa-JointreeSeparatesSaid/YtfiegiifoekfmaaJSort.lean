/- Plain: the insertion sorts of two permuted rows are equal. -/
import Derived.Sort.LotA
namespace Go.Proofs.Ytfiegiifoekfmaa.JT
open Go.Sort

theorem insSort_list (d : Array Int) : (Sort.insertionSort ltInt d 0 d.size).toList = d.toList.mergeSort (fun x y => !ltInt y x) := by
  obtain ⟨h1, h2⟩ := insertionSort_holds (lt := ltInt) swo_ltInt d 0 d.size (Nat.zero_le _) (Nat.le_refl _)
  exact sorted_unique_holds (lt := ltInt) swo_ltInt (fun x y h1 h2 => by simp [ltInt] at h1 h2; omega) d _ h1 h2

theorem mergeSort_perm {l l' : List Int} (h : l.Perm l') : l.mergeSort (fun x y => !ltInt y x) = l'.mergeSort (fun x y => !ltInt y x) := by
  have tr : ∀ a b c : Int, (!ltInt b a) = true → (!ltInt c b) = true → (!ltInt c a) = true := fun a b c h1 h2 => by simp [ltInt] at *; omega
  have tot : ∀ a b : Int, ((!ltInt b a) || (!ltInt a b)) = true := fun a b => by simp [ltInt]; omega
  refine List.Perm.eq_of_pairwise (le := fun x y => (!ltInt y x) = true) ?_ (List.pairwise_mergeSort tr tot l) (List.pairwise_mergeSort tr tot l') (((List.mergeSort_perm l _).trans h).trans (List.mergeSort_perm l' _).symm)
  intro a b _ _ h1 h2
  simp [ltInt] at h1 h2
  omega

theorem insSort_perm {d e : Array Int} (h : d.toList.Perm e.toList) : Sort.insertionSort ltInt d 0 d.size = Sort.insertionSort ltInt e 0 e.size := by
  apply Array.toList_inj.1
  rw [insSort_list, insSort_list, mergeSort_perm h]

end Go.Proofs.Ytfiegiifoekfmaa.JT

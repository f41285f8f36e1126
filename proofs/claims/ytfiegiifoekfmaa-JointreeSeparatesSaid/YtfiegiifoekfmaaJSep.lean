/- Plain: the separators of a tree and of the rerooted tree are the same, as multisets, and the rerooted tree of a join tree is a join tree. -/
import Derived.Test.YtfiegiifoekfmaaJGrow
namespace Go.Proofs.Ytfiegiifoekfmaa.JT

/-- The separators of those of the listed nodes that have a parent. -/
def sepsOf (es : List Nat) (ps : List Int) (I : List Nat) : List Nat := (I.filter fun i => decide (0 ≤ par ps i)).map fun (i : Nat) => sepF es ps (i : Int)
def sepsF (es : List Nat) (ps : List Int) : List Nat := sepsOf es ps (List.range ps.length)

theorem sepsOf_cons (es : List Nat) (ps : List Int) (v : Nat) (I : List Nat) : sepsOf es ps (v :: I) = (if 0 ≤ par ps v then [sepF es ps (v : Int)] else []) ++ sepsOf es ps I := by
  by_cases h : 0 ≤ par ps v <;> simp [sepsOf, h]

theorem sepF_link {es : List Nat} {ps : List Int} {v u : Nat} (hl : ps.length = es.length) (hv : v < ps.length) (hu : u < ps.length) (h : par ps v = (u : Int)) : sepF es ps (v : Int) = es[v]?.getD 0 &&& es[u]?.getD 0 := by
  have h' : ps[v]?.getD 0 = (u : Int) := by simp [par, hv] at h; simp [hv, h]
  unfold sepF
  rw [if_pos (by omega)]
  simp only [Int.toNat_natCast]
  rw [h', if_pos (by omega)]
  simp only [Int.toNat_natCast]

theorem seps_path {es : List Nat} {ps q : List Int} (hl : ps.length = es.length) (hq : q.length = es.length) : ∀ (P : List Nat) (v : Nat), Path ps (v : Int) (v :: P) → Back q (v : Int) P → sepsOf es ps (v :: P) = sepsOf es q P
  | [], v, hp, _ => by
    have h : par ps v < 0 := hp.2.2
    rw [sepsOf_cons, if_neg (by omega)]; rfl
  | u :: P, v, hp, hb => by
    obtain ⟨_, hv, h1⟩ := hp
    have h1' : par ps v = (u : Int) := h1.1
    have hu := h1.2.1
    have ih := seps_path hl hq P u ⟨rfl, h1.2.1, h1.2.2⟩ hb.2
    have hqu : par q u = (v : Int) := par_get hb.1
    rw [sepsOf_cons es ps v, sepsOf_cons es q u, if_pos (by omega), if_pos (by omega), ih, sepF_link hl hv hu h1', sepF_link hq (by omega) (by omega) hqu, Nat.and_comm]

theorem sepsOf_same {es : List Nat} {ps q : List Int} (hlen : q.length = ps.length) : ∀ (I : List Nat), (∀ x ∈ I, q[x]? = ps[x]?) → sepsOf es ps I = sepsOf es q I
  | [], _ => rfl
  | v :: I, h => by
    have hv := h v (by simp)
    have hp : par q v = par ps v := by simp only [par, hv]
    have hs : sepF es q (v : Int) = sepF es ps (v : Int) := by
      unfold sepF
      simp only [Int.toNat_natCast, hv, hlen]
    rw [sepsOf_cons, sepsOf_cons, hp, hs, sepsOf_same hlen I fun x hx => h x (by simp [hx])]

theorem sepsOf_perm {es : List Nat} {ps : List Int} {I J : List Nat} (h : I.Perm J) : (sepsOf es ps I).Perm (sepsOf es ps J) := (h.filter _).map _
theorem sepsOf_append (es : List Nat) (ps : List Int) (I J : List Nat) : sepsOf es ps (I ++ J) = sepsOf es ps I ++ sepsOf es ps J := by simp [sepsOf]

theorem nodup_count {l : List Nat} (h : l.Nodup) (a : Nat) : l.count a = if a ∈ l then 1 else 0 := by
  induction l with
  | nil => simp
  | cons b l ih =>
    rw [List.nodup_cons] at h
    rw [List.count_cons, ih h.2]
    by_cases hb : b = a
    · subst hb; simp [h.1]
    · have hb' : ¬ a = b := fun e => hb e.symm
      simp [hb, hb']

theorem range_split {n : Nat} {P : List Nat} (hn : P.Nodup) (hl : ∀ x ∈ P, x < n) : (List.range n).Perm (P ++ (List.range n).filter fun x => !(P.contains x)) := by
  rw [List.perm_iff_count]
  intro a
  rw [List.count_append, nodup_count List.nodup_range, nodup_count hn, nodup_count (List.nodup_range.filter _)]
  by_cases h1 : a ∈ P
  · have := hl a h1; simp [h1, this]
  · simp [h1]

theorem seps_perm {es : List Nat} {ps : List Int} {root : Nat} (hl : ps.length = es.length) (hr : rootedB ps = true) (hroot : root < ps.length) : (sepsF es ps).Perm (sepsF es (rerootF ps root)) := by
  obtain ⟨A, r, hP, hpr, hrl, hre⟩ := reroot_is hr hroot
  have hnd := hP.nodup
  have hlt := hP.lt
  have hback := setPath_back (A ++ [r]) ps (-1) hnd hlt
  have hlen := setPath_length (A ++ [r]) ps (-1)
  have hout := fun x h => setPath_out (x := x) (A ++ [r]) ps (-1) h
  rw [← hre] at hback hlen hout
  generalize rerootF ps root = q at *
  obtain ⟨P, hAr⟩ : ∃ P, A ++ [r] = root :: P := by
    cases A with
    | nil => have := hP.1; exact ⟨[], by simp; omega⟩
    | cons u A' => have := hP.1; exact ⟨A' ++ [r], by simp; omega⟩
  rw [hAr] at hP hback hnd hlt hout
  have h1 := seps_path (es := es) hl (by omega) P root hP hback.2
  have h0 : sepsOf es q (root :: P) = sepsOf es q P := by
    rw [sepsOf_cons, if_neg (by rw [par_get hback.1]; omega)]; rfl
  have hs := range_split hnd hlt
  have h2 : sepsOf es ps ((List.range ps.length).filter fun x => !((root :: P).contains x)) = sepsOf es q ((List.range ps.length).filter fun x => !((root :: P).contains x)) := by
    refine sepsOf_same hlen _ fun x hx => hout x ?_
    rw [List.mem_filter] at hx
    simpa using hx.2
  have e1 := sepsOf_perm (es := es) (ps := ps) hs
  have e2 := sepsOf_perm (es := es) (ps := q) hs
  rw [sepsOf_append] at e1 e2
  rw [h1, ← h0, h2] at e1
  unfold sepsF
  rw [hlen]
  exact e1.trans e2.symm

theorem links_seps {es : List Nat} {ps : List Int} (hl : ps.length = es.length) (hv : ∀ p ∈ ps, -1 ≤ p ∧ p < ps.length) (v : Nat) : linksF es ps v = (sepsF es ps).countP fun s => has s v := by
  unfold linksF sepsF sepsOf
  rw [List.countP_map, List.countP_filter, hl]
  refine List.countP_congr fun i hi => ?_
  have hi' : i < ps.length := by rw [hl]; exact List.mem_range.1 hi
  have hpar : par ps i = ps[i] := by simp [par, hi']
  have hb := hv ps[i] (List.getElem_mem hi')
  have hg : ps[i]?.getD 0 = ps[i] := by simp [hi']
  unfold linkB
  rw [hg, hpar]
  by_cases h0 : 0 ≤ ps[i]
  · obtain ⟨u, hu⟩ := Int.eq_ofNat_of_zero_le h0
    have hlk := sepF_link (es := es) hl hi' (show u < ps.length by omega) (by rw [hpar, hu])
    simp only [Function.comp_apply, hlk, hu, Int.toNat_natCast, has_eq, Nat.testBit_and]
    simp
  · simp [h0]

theorem reroot_chk {n : Nat} {es : List Nat} {ps : List Int} {root : Nat} (h : chkF n es ps = 0) (hroot : root < ps.length) : chkF n es (rerootF ps root) = 0 := by
  have hg : hgCheckF n es = 0 := by
    refine Classical.byContradiction fun h2 => ?_
    rw [chkF_hg h2] at h; exact h2 h
  have hl : ps.length = es.length := by
    refine Classical.byContradiction fun h2 => ?_
    rw [chkF_len hg h2] at h; omega
  have hr : rootedB ps = true := by
    cases h2 : rootedB ps with
    | true => rfl
    | false => rw [chkF_root hg hl h2] at h; omega
  have ht : TopsOk es ps := by
    refine Classical.byContradiction fun h2 => ?_
    rw [chkF_tops hg hl hr h2] at h; omega
  obtain ⟨n', hn', hn, _, hN⟩ := hgCheckF_zero hg
  obtain rfl : n = n' := by omega
  obtain ⟨hlen, hrq, -⟩ := reroot_rooted hr hroot
  have hlq : (rerootF ps root).length = es.length := by omega
  refine chkF_ok hg hlq hrq ((joinB_iff hN hn hlq hrq).1 ?_)
  have hj := (joinB_iff hN hn hl hr).2 ht
  have hlinks : ∀ v, linksF es (rerootF ps root) v = linksF es ps v := fun v => by
    rw [links_seps hl (rooted_parts hr).1, links_seps hlq (rooted_parts hrq).1]
    exact ((seps_perm hl hr hroot).countP_eq _).symm
  unfold joinB at hj ⊢
  simp only [hlinks]
  exact hj

end Go.Proofs.Ytfiegiifoekfmaa.JT

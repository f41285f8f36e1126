/- Plain: a rerooted tree is rooted, and rerooting it to the old root gives the old tree back. -/
import Derived.Test.YtfiegiifoekfmaaJRer
namespace Go.Proofs.Ytfiegiifoekfmaa.JT

/-- The nodes from a upward. -/
def Path (ps : List Int) : Int → List Nat → Prop
  | a, [] => a < 0
  | a, v :: P => a = (v : Int) ∧ v < ps.length ∧ Path ps (par ps v) P

theorem Path.unique {ps : List Int} : ∀ {P Q : List Nat} {a : Int}, Path ps a P → Path ps a Q → P = Q
  | [], [], _, _, _ => rfl
  | [], v :: Q, a, h, k => by have := k.1; have h' : a < 0 := h; omega
  | v :: P, [], a, h, k => by have := h.1; have k' : a < 0 := k; omega
  | v :: P, u :: Q, a, h, k => by
    have : v = u := by have := h.1; have := k.1; omega
    subst this
    rw [Path.unique h.2.2 k.2.2]

theorem Path.tail {ps : List Int} : ∀ {A B : List Nat} {v : Nat} {a : Int}, Path ps a (A ++ v :: B) → Path ps (v : Int) (v :: B)
  | [], B, v, a, h => ⟨rfl, h.2.1, h.2.2⟩
  | u :: A, B, v, a, h => Path.tail (A := A) h.2.2

theorem Path.nodup {ps : List Int} : ∀ {P : List Nat} {a : Int}, Path ps a P → P.Nodup
  | [], _, _ => List.nodup_nil
  | v :: P, a, h => by
    rw [List.nodup_cons]
    refine ⟨fun hm => ?_, Path.nodup h.2.2⟩
    obtain ⟨A, B, rfl⟩ := List.append_of_mem hm
    have h1 : Path ps (v : Int) (v :: (A ++ v :: B)) := ⟨rfl, h.2.1, h.2.2⟩
    have h2 : Path ps (v : Int) (v :: B) := Path.tail (A := v :: A) h1
    have := congrArg List.length (Path.unique h1 h2)
    simp at this
    omega

theorem Path.lt {ps : List Int} : ∀ {P : List Nat} {a : Int}, Path ps a P → ∀ x ∈ P, x < ps.length
  | [], _, _, x, hx => by simp at hx
  | v :: P, a, h, x, hx => by
    simp at hx
    rcases hx with rfl | hx
    · exact h.2.1
    · exact Path.lt h.2.2 x hx

theorem path_of_up {ps : List Int} (hv : ∀ p ∈ ps, -1 ≤ p ∧ p < ps.length) : ∀ (k : Nat) (a : Int), a < ps.length → up ps k a < 0 → ∃ P, Path ps a P ∧ P.length ≤ k
  | 0, a, _, h => ⟨[], h, by simp⟩
  | k + 1, a, ha, h => by
    by_cases hneg : a < 0
    · exact ⟨[], hneg, by simp⟩
    · obtain ⟨v, rfl⟩ := Int.eq_ofNat_of_zero_le (show 0 ≤ a by omega)
      have hvl : v < ps.length := by omega
      rw [up_succ hvl] at h
      have hb := hv ps[v] (List.getElem_mem hvl)
      have hpar : par ps v = ps[v] := by simp [par, hvl]
      obtain ⟨P, h1, h2⟩ := path_of_up hv k (par ps v) (by omega) h
      exact ⟨v :: P, ⟨rfl, hvl, h1⟩, by simp; omega⟩

def setPath (out : List Int) (ab : Int) : List Nat → List Int
  | [] => out
  | v :: P => setPath (out.set v ab) (v : Int) P

theorem rerootGo_path {ps : List Int} : ∀ (f : Nat) {P : List Nat} {a ab : Int} {out : List Int}, Path ps a P → P.length ≤ f → rerootGo ps f a ab out = setPath out ab P
  | 0, [], a, ab, out, h, _ => rfl
  | 0, v :: P, a, ab, out, h, hl => by simp at hl
  | f + 1, [], a, ab, out, h, _ => by
    have h' : a < 0 := h
    rw [rerootGo, if_pos h']; rfl
  | f + 1, v :: P, a, ab, out, h, hl => by
    have ha := h.1
    subst ha
    rw [rerootGo_step h.2.1]
    have hpar : par ps v = ps[v]'h.2.1 := by simp [par, h.2.1]
    have h3 := h.2.2
    rw [hpar] at h3
    exact rerootGo_path f h3 (by simp at hl; omega)

theorem setPath_length : ∀ (P : List Nat) (out : List Int) (ab : Int), (setPath out ab P).length = out.length
  | [], _, _ => rfl
  | v :: P, out, ab => by rw [setPath, setPath_length P]; simp

theorem setPath_out {x : Nat} : ∀ (P : List Nat) (out : List Int) (ab : Int), x ∉ P → (setPath out ab P)[x]? = out[x]?
  | [], _, _, _ => rfl
  | v :: P, out, ab, h => by
    simp at h
    rw [setPath, setPath_out P _ _ h.2, List.getElem?_set_ne (fun e => h.1 e.symm)]

/-- Each node of the list points to the one before it. -/
def Back (q : List Int) (ab : Int) : List Nat → Prop
  | [] => True
  | v :: P => q[v]? = some ab ∧ Back q (v : Int) P

theorem Back.congr {q q' : List Int} : ∀ {P : List Nat} {ab : Int}, (∀ x ∈ P, q[x]? = q'[x]?) → Back q ab P → Back q' ab P
  | [], _, _, _ => trivial
  | v :: P, ab, h, hb => ⟨by rw [← h v (by simp)]; exact hb.1, Back.congr (fun x hx => h x (by simp [hx])) hb.2⟩

theorem setPath_back : ∀ (P : List Nat) (out : List Int) (ab : Int), P.Nodup → (∀ x ∈ P, x < out.length) → Back (setPath out ab P) ab P
  | [], _, _, _, _ => trivial
  | v :: P, out, ab, hn, hl => by
    rw [List.nodup_cons] at hn
    refine ⟨?_, setPath_back P _ _ hn.2 fun x hx => by simp; exact hl x (by simp [hx])⟩
    rw [setPath, setPath_out P _ _ hn.1, List.getElem?_set_self (hl v (by simp))]

theorem par_get {ps : List Int} {v : Nat} {a : Int} (h : ps[v]? = some a) : par ps v = a := by simp [par, h]

/-- The last node of a list, or a. -/
def lastOr (a : Int) : List Nat → Int
  | [] => a
  | v :: P => lastOr (v : Int) P

theorem back_path {q : List Int} : ∀ (P : List Nat) {ab : Int} {acc : List Nat}, Back q ab P → Path q ab acc → Path q (lastOr ab P) (P.reverse ++ acc)
  | [], _, _, _, h => h
  | v :: P, ab, acc, hb, h => by
    have hvl : v < q.length := (List.getElem?_eq_some_iff.1 hb.1).1
    have h1 : Path q (v : Int) (v :: acc) := ⟨rfl, hvl, by rw [par_get hb.1]; exact h⟩
    have := back_path P hb.2 h1
    rw [List.reverse_cons, List.append_assoc]
    exact this

theorem Back.snoc {q : List Int} : ∀ {A : List Nat} {ab : Int} {v : Nat}, Back q ab (A ++ [v]) → Back q ab A ∧ q[v]? = some (lastOr ab A)
  | [], ab, v, h => ⟨trivial, h.1⟩
  | u :: A, ab, v, h => by
    have := Back.snoc (A := A) h.2
    exact ⟨⟨h.1, this.1⟩, this.2⟩

theorem lastOr_snoc (a : Int) : ∀ (A : List Nat) (v : Nat), lastOr a (A ++ [v]) = (v : Int)
  | [], v => rfl
  | u :: A, v => by
    show lastOr (u : Int) (A ++ [v]) = _
    exact lastOr_snoc (u : Int) A v

/-- A tree whose path is reversed twice is the old one. -/
theorem back_again {ps q : List Int} (hv : ∀ p ∈ ps, -1 ≤ p ∧ p < ps.length) : ∀ {P : List Nat} {a : Int}, Path ps a P → Back q (-1) P.reverse → ∀ x ∈ P, q[x]? = ps[x]?
  | [], _, _, _, x, hx => by simp at hx
  | v :: P, a, h, hb, x, hx => by
    rw [List.reverse_cons] at hb
    obtain ⟨h1, h2⟩ := Back.snoc hb
    have hvl := h.2.1
    have hpar : par ps v = ps[v] := by simp [par, hvl]
    simp at hx
    rcases hx with rfl | hx
    · rw [h2, List.getElem?_eq_getElem hvl]
      congr 1
      cases P with
      | nil =>
        have h3 : par ps x < 0 := h.2.2
        have := hv ps[x] (List.getElem_mem hvl)
        show (-1 : Int) = _
        omega
      | cons u P' =>
        have h3 := h.2.2.1
        rw [List.reverse_cons, lastOr_snoc]
        omega
    · exact back_again hv h.2.2 h1 x hx

theorem whole_of_ex {ps : List Int} (hv : ∀ p ∈ ps, -1 ≤ p ∧ p < ps.length) (h : ∀ i, i < ps.length → ∃ k, up ps k (i : Int) < 0) : ∀ i, i < ps.length → up ps ps.length (i : Int) < 0 := by
  have hK : ∀ m, m ≤ ps.length → ∃ K, ∀ i, i < m → up ps K (i : Int) < 0 := by
    intro m
    induction m with
    | zero => intro _; exact ⟨0, fun i hi => by omega⟩
    | succ m ih =>
      intro hm
      obtain ⟨K, hK⟩ := ih (by omega)
      obtain ⟨k, hk⟩ := h m (by omega)
      refine ⟨max K k, fun i hi => ?_⟩
      by_cases him : i < m
      · exact up_stop (hK i him) (by omega)
      · obtain rfl : i = m := by omega
        exact up_stop hk (by omega)
  obtain ⟨K, hK⟩ := hK ps.length (Nat.le_refl _)
  refine (order_whole hv).1 ?_
  have hO := orderF_is ps
  generalize orderF ps = D at *
  have hle := hO.1.length
  refine Classical.byContradiction fun hne => ?_
  have hex : ∃ u, u < ps.length ∧ u ∉ D := by
    refine Classical.byContradiction fun hn => ?_
    have h2 := nodup_le (l := List.range ps.length) (m := D) List.nodup_range fun x hx => by
      refine Classical.byContradiction fun hx2 => hn ⟨x, List.mem_range.1 hx, hx2⟩
    simp at h2; omega
  obtain ⟨u, hu, hun⟩ := hex
  have hch : ∀ k, ∃ x, x < ps.length ∧ x ∉ D ∧ up ps k (x : Int) = (u : Int) := by
    intro k
    induction k with
    | zero => exact ⟨u, hu, hun, rfl⟩
    | succ k ih =>
      obtain ⟨x, hx, hxn, hxu⟩ := ih
      have hnr := hO.2 x
      have : ∃ y, y < ps.length ∧ par ps y = (x : Int) ∧ y ∉ D := by
        refine Classical.byContradiction fun hn => hnr ⟨hx, hxn, fun y hy hyp => ?_⟩
        refine Classical.byContradiction fun hyn => hn ⟨y, hy, hyp, hyn⟩
      obtain ⟨y, hy, hyp, hyn⟩ := this
      exact ⟨y, hy, hyn, by rw [up_succ hy, hyp, hxu]⟩
  obtain ⟨x, hx, _, hxu⟩ := hch K
  have := hK x hx
  omega

theorem back_up {q : List Int} : ∀ (P : List Nat) {ab : Int} (k : Nat), Back q ab P → up q k ab < 0 → ∀ x ∈ P, ∃ k', up q k' (x : Int) < 0
  | [], _, _, _, _, x, hx => by simp at hx
  | v :: P, ab, k, hb, hk, x, hx => by
    have hvl : v < q.length := (List.getElem?_eq_some_iff.1 hb.1).1
    have h1 : up q (k + 1) (v : Int) < 0 := by rw [up_succ hvl, par_get hb.1]; exact hk
    simp at hx
    rcases hx with rfl | hx
    · exact ⟨k + 1, h1⟩
    · exact back_up P (k + 1) hb.2 h1 x hx

theorem back_vals {q : List Int} : ∀ (P : List Nat) {ab : Int}, Back q ab P → ∀ x ∈ P, ∃ y : Int, q[x]? = some y ∧ (y = ab ∨ ∃ u ∈ P, y = (u : Int))
  | [], _, _, x, hx => by simp at hx
  | v :: P, ab, hb, x, hx => by
    simp at hx
    rcases hx with rfl | hx
    · exact ⟨ab, hb.1, .inl rfl⟩
    · obtain ⟨y, h1, h2⟩ := back_vals P hb.2 x hx
      refine ⟨y, h1, ?_⟩
      rcases h2 with rfl | ⟨u, hu, rfl⟩
      · exact .inr ⟨v, by simp, rfl⟩
      · exact .inr ⟨u, by simp [hu], rfl⟩

theorem root_in_path {ps : List Int} (hv : ∀ p ∈ ps, -1 ≤ p ∧ p < ps.length) (hroots : rootsF ps = 1) : ∀ {P : List Nat} {a : Int}, Path ps a P → P ≠ [] → ∃ A r, P = A ++ [r] ∧ par ps r = -1
  | [], _, _, h => absurd rfl h
  | v :: P, a, h, _ => by
    cases P with
    | nil =>
      have h3 : par ps v < 0 := h.2.2
      have hvl := h.2.1
      have hpar : par ps v = ps[v] := by simp [par, hvl]
      have := hv ps[v] (List.getElem_mem hvl)
      exact ⟨[], v, rfl, by omega⟩
    | cons u P' =>
      obtain ⟨A, r, h1, h2⟩ := root_in_path hv hroots h.2.2 (by simp)
      exact ⟨v :: A, r, by rw [h1]; rfl, h2⟩

theorem one_root {ps : List Int} (hroots : rootsF ps = 1) {x y : Nat} (hx : x < ps.length) (hy : y < ps.length) (h1 : par ps x < 0) (h2 : par ps y < 0) : x = y := by
  have hc : ∀ l : List Int, l.countP (fun p => decide (p < 0)) = (List.range l.length).countP fun i => decide (l[i]?.getD (-1) < 0) := by
    intro l
    have h : l = (List.range l.length).map fun i => l[i]?.getD (-1) := by
      apply List.ext_getElem
      · simp
      · intro i h1 h2; simp [h1]
    conv => lhs; rw [h]
    rw [List.countP_map]
    rfl
  have hle := (countP_le_one (fun i => decide (ps[i]?.getD (-1) < 0)) ps.length).1 (by
    have := hroots
    unfold rootsF at this
    rw [hc] at this
    omega)
  unfold par at h1 h2
  rcases Nat.lt_trichotomy x y with hlt | heq | hgt
  · exact absurd ⟨by simpa using h1, by simpa using h2⟩ (hle x y hlt hy)
  · exact heq
  · exact absurd ⟨by simpa using h2, by simpa using h1⟩ (hle y x hgt hx)

theorem roots_one {ps : List Int} {r : Nat} (hr : r < ps.length) (h1 : par ps r < 0) (h2 : ∀ x, x < ps.length → par ps x < 0 → x = r) : rootsF ps = 1 := by
  have hc : ps.countP (fun p => decide (p < 0)) = (List.range ps.length).countP fun i => decide (ps[i]?.getD (-1) < 0) := by
    have h : ps = (List.range ps.length).map fun i => ps[i]?.getD (-1) := by
      apply List.ext_getElem
      · simp
      · intro i h1 h2; simp [h1]
    conv => lhs; rw [h]
    rw [List.countP_map]
    rfl
  unfold rootsF
  rw [hc]
  have hle := (countP_le_one (fun i => decide (ps[i]?.getD (-1) < 0)) ps.length).2 (by
    rintro i j hij hj ⟨a, b⟩
    have e1 := h2 i (by omega) (by unfold par; simpa using a)
    have e2 := h2 j hj (by unfold par; simpa using b)
    omega)
  have hge : 0 < (List.range ps.length).countP (fun i => decide (ps[i]?.getD (-1) < 0)) := by
    rw [List.countP_pos_iff]
    exact ⟨r, List.mem_range.2 hr, by unfold par at h1; simpa using h1⟩
  omega

/-- What rerooting does: the path to the old root, reversed. -/
theorem reroot_is {ps : List Int} {root : Nat} (hr : rootedB ps = true) (hroot : root < ps.length) :
    ∃ A r, Path ps (root : Int) (A ++ [r]) ∧ par ps r = -1 ∧ r < ps.length ∧ rerootF ps root = setPath ps (-1) (A ++ [r]) := by
  obtain ⟨hv, hroots, hup⟩ := rooted_parts hr
  obtain ⟨P, hP, hl⟩ := path_of_up hv ps.length root (by omega) (hup root hroot)
  have hne : P ≠ [] := by
    intro h
    subst h
    have h' : (root : Int) < 0 := hP
    omega
  obtain ⟨A, r, rfl, hpr⟩ := root_in_path hv hroots hP hne
  exact ⟨A, r, hP, hpr, hP.lt r (by simp), rerootGo_path _ hP hl⟩

theorem reroot_rooted {ps : List Int} {root : Nat} (hr : rootedB ps = true) (hroot : root < ps.length) :
    (rerootF ps root).length = ps.length ∧ rootedB (rerootF ps root) = true ∧ ∃ r : Nat, r < ps.length ∧ par ps r = -1 ∧ rerootF (rerootF ps root) r = ps := by
  obtain ⟨hv, hroots, hup⟩ := rooted_parts hr
  obtain ⟨A, r, hP, hpr, hrl, hre⟩ := reroot_is hr hroot
  have hnd := hP.nodup
  have hlt := hP.lt
  have hback := setPath_back (A ++ [r]) ps (-1) hnd hlt
  have hlen := setPath_length (A ++ [r]) ps (-1)
  have hout := fun x h => setPath_out (x := x) (A ++ [r]) ps (-1) h
  rw [← hre] at hback hlen hout
  generalize hq : rerootF ps root = q at *
  have hroot_in : root ∈ A ++ [r] := by
    cases A with
    | nil => have := hP.1; simp; omega
    | cons u A' => have := hP.1; simp; omega
  have hval : ∀ x, x < ps.length → (x ∈ A ++ [r] ∧ ∃ y : Int, q[x]? = some y ∧ (y = -1 ∨ ∃ u ∈ A ++ [r], y = (u : Int))) ∨ (x ∉ A ++ [r] ∧ q[x]? = some (par ps x) ∧ 0 ≤ par ps x) := by
    intro x hx
    by_cases hm : x ∈ A ++ [r]
    · exact .inl ⟨hm, back_vals _ hback x hm⟩
    · refine .inr ⟨hm, ?_, ?_⟩
      · rw [hout x hm]; simp [par, hx]
      · refine Classical.byContradiction fun hneg => ?_
        have := one_root hroots hx hrl (by omega) (by omega)
        subst this
        exact hm (by simp)
  have hvq : ∀ p ∈ q, -1 ≤ p ∧ p < q.length := by
    intro p hp
    obtain ⟨x, hx, rfl⟩ := List.getElem_of_mem hp
    rcases hval x (by omega) with ⟨_, y, h1, h2⟩ | ⟨_, h1, h2⟩
    · rw [List.getElem?_eq_getElem hx] at h1
      injection h1 with h1
      rcases h2 with h2 | ⟨u, hu, h2⟩
      · omega
      · have := hlt u hu; omega
    · rw [List.getElem?_eq_getElem hx] at h1
      injection h1 with h1
      have := hv (ps[x]'(by omega)) (List.getElem_mem (by omega))
      have hpar : par ps x = ps[x]'(by omega) := by simp [par, show x < ps.length by omega]
      omega
  have hreach : ∀ x, x < q.length → ∃ k, up q k (x : Int) < 0 := by
    have hon : ∀ x ∈ A ++ [r], ∃ k, up q k (x : Int) < 0 := back_up _ 0 hback (by simp [up])
    have key : ∀ (k : Nat) (x : Nat), x < ps.length → up ps k (x : Int) < 0 → ∃ k', up q k' (x : Int) < 0 := by
      intro k
      induction k with
      | zero => intro x _ h; simp [up] at h; omega
      | succ k ih =>
        intro x hx h
        rcases hval x hx with ⟨hm, _⟩ | ⟨_, h1, h2⟩
        · exact hon x hm
        · rw [up_succ hx] at h
          obtain ⟨p, hp⟩ := Int.eq_ofNat_of_zero_le h2
          have hpar : par ps x = ps[x] := by simp [par, hx]
          have := hv ps[x] (List.getElem_mem hx)
          rw [hp] at h
          obtain ⟨k', hk'⟩ := ih p (by omega) h
          refine ⟨k' + 1, ?_⟩
          rw [up_succ (by omega), par_get h1, hp]
          exact hk'
    intro x hx
    exact key ps.length x (by omega) (hup x (by omega))
  have hrootq : par q root = -1 := by
    cases A with
    | nil =>
      have h1 := hP.1
      have : root = r := by omega
      subst this
      exact par_get hback.1
    | cons u A' =>
      have h1 := hP.1
      have : root = u := by omega
      subst this
      exact par_get hback.1
  have honly : ∀ x, x < q.length → par q x < 0 → x = root := by
    have hgen : ∀ (P : List Nat) (ab : Int), Back q ab P → ∀ x ∈ P, par q x < 0 → P.head? = some x := by
      intro P
      induction P with
      | nil => intro _ _ x hx; simp at hx
      | cons v P ih =>
        intro ab hb x hx hneg
        simp at hx
        rcases hx with rfl | hx
        · rfl
        · exfalso
          cases P with
          | nil => simp at hx
          | cons u P' =>
            have h1 := ih (v : Int) hb.2 x hx hneg
            simp at h1
            subst h1
            have h2 := par_get hb.2.1
            omega
    intro x hx hneg
    rcases hval x (by omega) with ⟨hm, _⟩ | ⟨_, h1, h2⟩
    · have h1 := hgen _ _ hback x hm hneg
      cases A with
      | nil => have := hP.1; simp at h1; omega
      | cons u A' => have := hP.1; simp at h1; omega
    · rw [par_get h1] at hneg; omega
  have hrq : rootedB q = true := rootedB_true hvq (roots_one (r := root) (by omega) (by omega) honly) (whole_of_ex hvq hreach)
  refine ⟨hlen, hrq, r, hrl, hpr, ?_⟩
  have hpathq : Path q (r : Int) ((A ++ [r]).reverse) := by
    have h1 := back_path (A ++ [r]) hback (acc := []) (show (-1 : Int) < 0 by omega)
    rw [lastOr_snoc, List.append_nil] at h1
    exact h1
  have hre2 : rerootF q (r : Int) = setPath q (-1) (A ++ [r]).reverse := by
    refine rerootGo_path _ hpathq ?_
    have := nodup_le (m := List.range q.length) hpathq.nodup fun x hx => List.mem_range.2 (hpathq.lt x hx)
    simpa using this
  rw [hre2]
  have hb2 := setPath_back (A ++ [r]).reverse q (-1) hpathq.nodup hpathq.lt
  have hagain := back_again hv hP hb2
  apply List.ext_getElem?
  intro x
  by_cases hm : x ∈ A ++ [r]
  · exact hagain x hm
  · rw [setPath_out _ _ _ (by rw [List.mem_reverse]; exact hm), hout x hm]

end Go.Proofs.Ytfiegiifoekfmaa.JT

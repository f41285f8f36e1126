/- Further words for the laws of chapter 16. -/
import Derived.Test.YtgaffbdcpkbdhaaHZ26
namespace Go.Proofs.Ytgaffbdcpkbdhaa
open Go.RowKit Go.Sort Go.ChangeMaps Go.WideShapes

-- snapshot.New of the zero database
set_option maxHeartbeats 2000000 in
set_option maxRecDepth 100000 in
theorem snNew_low (n : Int) (hn : 0 ≤ n) (hw : (Lit.int .i64 n).wf = true) (w : World) :
    Calls Try.prog 10 #[.int .i64 n, .agg #[.map none]] w fun e w' => ∃ m', e = .returned (.tuple #[.agg #[.map (some m'), .int .i64 n], .int .i64 0]) ∧ Below w.heap.size w w' := by
  have hmm := fun u => run_makeMap (P := Try.prog) 29 u
  obtain ⟨W0, hW0⟩ : ∃ W0, W0 = ((w.alloc (.cells #[.map none] 25)).alloc (.cells #[.map none, .int .i64 0] 31)).alloc (.map #[] 0) := ⟨_, rfl⟩
  have hr2 : Row W0 (w.heap.size + 1) 31 [.map none, .int .i64 0] := by
    have h := (Row.new (w.alloc (.cells #[.map none] 25)) 31 [.map none, .int .i64 0]).alloc (.map #[] 0)
    rw [World.size_alloc] at h
    rw [hW0]; exact h
  have hx0 : Ext w W0 := by rw [hW0]; exact (((Ext.refl w).alloc _).alloc _).alloc _
  have hr1 : Row W0 w.heap.size 25 [.map none] := by rw [hW0]; exact ((Row.new w 25 _).alloc _).alloc _
  have ho : W0.ownsMap Try.prog 3 heldR (w.heap.size + 1 + 1) 0 (.map []) := by
    have h := World.ownsMap_made ((w.alloc (.cells #[.map none] 25)).alloc (.cells #[.map none, .int .i64 0] 31)) Try.prog 3 heldR
    rw [World.size_alloc, World.size_alloc] at h
    rw [hW0]; exact h
  have HO := Lib.hid ho
  have HR2 := Lib.hid hr2
  have HX0 := Lib.hid hx0
  have HW := Lib.hid hw
  have k9 : W0.cell? ⟨w.heap.size, 0, none⟩ = some (.map none) := hr1.cell 0
  have z9 := hr1.lt
  clear ho hr2 hx0 hw hr1
  go_enter Try.func10, Try.ntmps10
  go_wp2_with
    (rw [← hW0]
     refine insertOwn rfl _ _ _ 29 rfl 3 87 keyedI Try.underlying29 (w.heap.size + 1 + 1) 0 (.map []) rfl HO.out (by decide) _ _ (litI n) rfl rfl (keyI HW.out) ?_
     intro w2 hown2 hg2
     have q2 := HR2.out.grown hg2 (by intro e; injection e with e; omega)
     have k0 : w2.cell? ⟨w.heap.size + 1, 0, none⟩ = some (.map none) := q2.cell 0
     have k1 : w2.cell? ⟨w.heap.size + 1, 1, none⟩ = some (.int .i64 0) := q2.cell 1
     have k2 := q2.frozen 0
     have k3 := q2.frozen 1
     have HQ2 := Lib.hid q2
     have HO2 := Lib.hid hown2
     have HB2 : Hid (Below w.heap.size w w2) := HX0.out.below.grown hg2 HX0.out.size (fun k hk => by injection hk with hk; omega)
     clear q2 hown2 hg2 hmm)
  obtain ⟨W3, hW3⟩ : ∃ W3, W3 = (w2.setCell ⟨w.heap.size + 1, 0, none⟩ (.map (some (w.heap.size + 1 + 1)))).setCell ⟨w.heap.size + 1, 1, none⟩ (.int .i64 n) := ⟨_, rfl⟩
  rw [← hW3]
  have q := HQ2.out.set2 (.map (some (w.heap.size + 1 + 1))) (.int .i64 n)
  rw [← hW3] at q
  have c0 := q.cell 0
  have c1 := q.cell 1
  have hb3 : Below w.heap.size w W3 := by
    rw [hW3]
    exact (HB2.out.setCell (by show w.heap.size ≤ w.heap.size + 1; omega) _).setCell (by show w.heap.size ≤ w.heap.size + 1; omega) _
  exact bodyPost_ret (v := .tuple #[.agg #[.map (some (w.heap.size + 1 + 1)), .int .i64 n], .int .i64 0]) (by simp [results, Try.results10, go_sem, c0, c1]) rfl ⟨_, rfl, hb3⟩

theorem SchsM.below {B C : Nat} {w w' : World} {A : Option Addr} {X : Sch} (h : SchsM B w A X) (hb : Below C w w') (hC : B ≤ C) : SchsM B w' A X := fun hn => by
  obtain ⟨b, o, e, hlt, hc⟩ := h hn
  exact ⟨b, o, e, hlt, fun i hi => by
    obtain ⟨KA, KC, g0, g1, g2⟩ := hc i hi
    have hb' : b < C := Nat.lt_of_lt_of_le hlt hC
    exact ⟨KA, KC, (hb.cell hb').trans g0, (hb.cell hb').trans g1, Sl.below g2 hb hC⟩⟩
theorem SchsM.more {B B' : Nat} {w : World} {A : Option Addr} {X : Sch} (h : SchsM B w A X) (hB : B ≤ B') : SchsM B' w A X := fun hn => by
  obtain ⟨b, o, e, hlt, hc⟩ := h hn
  exact ⟨b, o, e, Nat.lt_of_lt_of_le hlt hB, fun i hi => by
    obtain ⟨KA, KC, g0, g1, g2⟩ := hc i hi
    exact ⟨KA, KC, g0, g1, Sl.more g2 hB⟩⟩
theorem errSchs_ok : ∀ (X : Sch) (seen : List ByteArray), errSchs seen X = 0 → (∀ p ∈ X, nameF p.1 = true ∧ memB p.1 seen = false ∧ p.2.length ≤ 6) ∧ (X.map Prod.fst).Nodup
  | [], _, _ => ⟨fun p hp => (by cases hp), List.nodup_nil⟩
  | p :: t, seen, h => by
    unfold errSchs at h
    split at h
    · rename_i h0
      obtain ⟨h1, h2⟩ := errSchs_ok t _ h
      have hp : nameF p.1 = true ∧ memB p.1 seen = false ∧ p.2.length ≤ 6 := by
        unfold errSch at h0
        split at h0
        · cases h0
        · rename_i k1
          split at h0
          · cases h0
          · rename_i k2
            split at h0
            · cases h0
            · rename_i k3
              exact ⟨by simpa using k1, by simpa using k2, by omega⟩
      have hsub : ∀ q ∈ t, q.1 ≠ p.1 ∧ memB q.1 seen = false := fun q hq => by
        obtain ⟨_, g, _⟩ := h1 q hq
        refine ⟨fun e => ?_, ?_⟩
        · rw [e] at g
          exact absurd (List.mem_append.2 (.inr (List.mem_singleton.2 rfl))) (memB_no g)
        · cases hm : memB q.1 seen
          · rfl
          · exact absurd (List.mem_append.2 (.inl (memB_iff.1 hm))) (memB_no g)
      refine ⟨fun q hq => ?_, ?_⟩
      · rcases List.mem_cons.1 hq with rfl | hq
        · exact hp
        · exact ⟨(h1 q hq).1, (hsub q hq).2, (h1 q hq).2.2⟩
      · rw [List.map_cons, List.nodup_cons]
        refine ⟨fun hm => ?_, h2⟩
        obtain ⟨q, hq, e⟩ := List.mem_map.1 hm
        exact (hsub q hq).1 e
    · rename_i h0
      exact absurd h h0
/-- Schemas that New takes. -/
theorem errS_ok {X : Sch} (h : errS X = 0) : X.length ≤ 16 ∧ (∀ p ∈ X, nameF p.1 = true ∧ p.2.length ≤ 6) ∧ (X.map Prod.fst).Nodup := by
  unfold errS at h
  split at h
  · cases h
  · obtain ⟨h1, h2⟩ := errSchs_ok X [] h
    exact ⟨by omega, fun p hp => ⟨(h1 p hp).1, (h1 p hp).2.2⟩, h2⟩
theorem nameF_nil : nameF ⟨#[]⟩ = false := by rfl
theorem check_nil {X : Sch} (h : ∀ p ∈ X, nameF p.1 = true) (x : RL.R) : checkF X ⟨#[]⟩ x = 7 := by
  unfold checkF
  rw [List.find?_eq_none.2 fun p hp => by
    intro e
    have e : p.1 = ⟨#[]⟩ := by simpa using e
    have := h p hp
    rw [e, nameF_nil] at this
    cases this]
theorem apply_bad {X : Sch} (h : ∀ p ∈ X, nameF p.1 = true) (F : Cont) (us : List Upd) : applyF X F 0 (⟨false, ⟨#[]⟩, []⟩ :: us) = (7, F, 0) := by
  have hs : stepU X F ⟨false, ⟨#[]⟩, []⟩ = (7, F, false) := by
    unfold stepU
    have := check_nil h []
    show (if checkF X ⟨#[]⟩ [] = 0 then _ else (checkF X ⟨#[]⟩ [], F, false)) = _
    rw [this]
    rfl
  unfold applyF
  rw [hs]
  rfl
theorem commit_bad {X : Sch} (h : ∀ p ∈ X, nameF p.1 = true) (V : List Ver) (l : Int) (us : List Upd) : commitR X V l (⟨false, ⟨#[]⟩, []⟩ :: us) = (7, V, l) := by
  unfold commitR
  rw [apply_bad h]
  rfl
theorem commit_pins {X : Sch} {V : List Ver} {l : Int} {us : List Upd} (hp : V.Pairwise (fun x y => x.num < y.num)) (h : ∀ x ∈ V, x.pins = 0) : ∀ x ∈ (commitR X V l us).2.1, x.pins = 0 := fun x hx => by
  unfold commitR at hx
  split at hx
  · rcases (mem_putV _ hp x).1 hx with rfl | ⟨hx, _⟩
    · rfl
    · exact h x hx
  · exact h x hx
theorem unpin_pins {V : List Ver} (h : ∀ x ∈ V, x.pins = 0) (n : Int) : (unpinR V n).1 ≠ 0 := by
  unfold unpinR
  cases hf : findV V n with
  | none => exact fun h => (by cases h)
  | some x =>
    show (if x.pins = 0 then ((17 : Int), V) else _).1 ≠ 0
    rw [if_pos (h x (findV_some hf).1)]
    exact fun h => (by cases h)

/-- Versions, read. -/
theorem snVersions_sl {P : Nat → Prop} {S : Sch} {m : Value} {l : Int} {V : List Ver} {w : World} (h : StM P S w m V) (hV : V.length ≤ 1000) :
    Calls Try.prog 12 #[.agg #[m, .int .i64 l]] w fun e w' => ∃ A C, e = .returned (.slice A V.length C) ∧ SlI .i64 w'.heap.size w' A (V.map (·.num)) ∧ Below w.heap.size w w' := by
  refine (snVersions_any h hV).mono ?_
  rintro e w' ⟨v, rfl, hrow, hb⟩
  obtain ⟨A, C, rfl, -, -, hs⟩ := Sl.of_own hrow
  refine ⟨A, C, ?_, hs, hb⟩
  rw [List.length_map, List.length_map]
theorem r16Same_refl (A B : Option Addr) (C D n : Nat) (xs : List Int) (w : World) (hn : xs.length = n) (hA : SlI .i64 w.heap.size w A xs) (hB : SlI .i64 w.heap.size w B xs) (hl : n ≤ 1000000) :
    Calls Try.prog 20 #[.slice A n C, .slice B n D] w fun e w' => e = .returned (.bool true) ∧ Ext w w' := by
  subst hn
  have h := r16Same_any A B C D xs xs w hA hB hl hl
  rwa [decide_eq_true (show xs = xs from rfl)] at h

end Go.Proofs.Ytgaffbdcpkbdhaa

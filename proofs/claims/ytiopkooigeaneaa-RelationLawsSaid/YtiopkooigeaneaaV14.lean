/- Walk: row.Project. -/
import Derived.Test.YtiopkooigeaneaaV13
namespace Go.Proofs.Ytiopkooigeaneaa
open Go.RowKit Go.Sort

def zV : RL.V := ⟨0, 0, ⟨#[]⟩⟩
/-- n zero values, as a new array holds them. (A plain definition: the walk does not look into it.) -/
def zerosV (n : Nat) : Array Value := (rcells (List.replicate n zV)).toArray
theorem rcells_set (L : RL.R) (k : Nat) (v : RL.V) (h : k < L.length) : rcells (L.set k v) = (((rcells L).set (k * 3) (.int .i64 v.kind)).set (k * 3 + 1) (.int .i64 v.int)).set (k * 3 + 2) (.string v.str) := by
  induction L generalizing k with
  | nil => simp at h
  | cons u L ih =>
    cases k with
    | zero => simp [rcells_cons, vcells]
    | succ k =>
      rw [List.set_cons_succ, rcells_cons, rcells_cons, ih k (by simpa using h)]
      rw [show (k + 1) * 3 = k * 3 + 1 + 1 + 1 by omega]
      simp [vcells]
theorem makeVals (n : Nat) (hn : n ≤ 1000000) (w : World) : (Instr.makeSlice 24 (.int .i64 (n : Int)) (.int .i64 (n : Int))).run Try.prog w = .ok (.slice (some ⟨w.heap.size, 0, none⟩) n n) (w.alloc (.cells (zerosV n) 60)) := by
  obtain ⟨i0, hi0, hz0, hz1, hz2⟩ := info_parts valInfo
  have := run_make (P := Try.prog) w 24 60 i0 _ Try.underlying24 hi0 hz0 .i64 .i64 n n (by omega) (by omega) (by rw [hz2]; omega) (by omega)
  rw [this, hz1]
  simp only [Int.toNat_natCast]
  have e : madeCells (Value.agg #[.int .i64 0, .int .i64 0, .string ⟨#[]⟩]).cells (n * 3) = zerosV n := by
    unfold madeCells zerosV
    apply Array.ext
    · simp [rcells_length]
    · intro i h1 h2
      have hi : i / 3 < n := by simp [rcells_length] at h2; omega
      obtain ⟨g1, g2, g3⟩ := rcells_get (List.replicate n zV) (i / 3) zV (by rw [List.getElem?_replicate, if_pos hi])
      have hm := Nat.div_add_mod i 3
      simp only [List.getElem_toArray]
      have h3 : i % 3 = 0 ∨ i % 3 = 1 ∨ i % 3 = 2 := by omega
      rcases h3 with h3 | h3 | h3
      · rw [show i / 3 * 3 = i by omega] at g1
        rw [List.getElem?_eq_some_iff] at g1
        obtain ⟨_, g1⟩ := g1
        rw [g1]
        simp [h3, Value.cells, zV]
      · rw [show i / 3 * 3 + 1 = i by omega] at g2
        rw [List.getElem?_eq_some_iff] at g2
        obtain ⟨_, g2⟩ := g2
        rw [g2]
        simp [h3, Value.cells, zV]
      · rw [show i / 3 * 3 + 2 = i by omega] at g3
        rw [List.getElem?_eq_some_iff] at g3
        obtain ⟨_, g3⟩ := g3
        rw [g3]
        simp [h3, Value.cells, zV]
  rw [e]

/-- The given columns of a row. -/
def projF (x : RL.R) (cs : List Int) : RL.R := cs.map fun c => x.getD c.toNat zV
theorem projF_length (x : RL.R) (cs : List Int) : (projF x cs).length = cs.length := by simp [projF]

theorem getD_at {x : RL.R} {c : Nat} (h : c < x.length) : x.getD (c : Int).toNat zV = x[c] := by simp [List.getD, h]

/-- The first k columns are laid. -/
def halfP (x : RL.R) (cs : List Int) (k : Nat) : RL.R := (projF x cs).take k ++ List.replicate (cs.length - k) zV
theorem halfP_length (x : RL.R) (cs : List Int) (k : Nat) (h : k ≤ cs.length) : (halfP x cs k).length = cs.length := by simp [halfP, projF_length]; omega
theorem halfP_set (x : RL.R) (cs : List Int) (k : Nat) (h : k < cs.length) : (halfP x cs k).set k (projF x cs)[k]! = halfP x cs (k + 1) := by
  have hk : k < (projF x cs).length := by rw [projF_length]; exact h
  unfold halfP
  rw [List.set_append_right _ _ (by simp; omega), List.take_succ_eq_append_getElem hk, List.append_assoc]
  congr 1
  have e : k - ((projF x cs).take k).length = 0 := by simp; omega
  rw [e, show cs.length - k = (cs.length - (k + 1)) + 1 by omega, List.replicate_succ]
  simp [hk]

set_option maxHeartbeats 2000000 in
set_option maxRecDepth 100000 in
theorem rwProject_ok (XA CA : Option Addr) (XC CC : Nat) (x : RL.R) (cs : List Int) (w : World) (hx : SlR w.heap.size w XA x) (hc : SlI .i64 w.heap.size w CA cs) (hxl : x.length ≤ 1000000) (hcl : cs.length ≤ 1000000) (hv : ∀ c ∈ cs, 0 ≤ c ∧ c < x.length) :
    Calls Try.prog 63 #[.slice XA x.length XC, .slice CA cs.length CC] w fun e w' => e = .returned (.tuple #[.slice (some ⟨w.heap.size, 0, none⟩) cs.length cs.length, .int .i64 0]) ∧ Row w' w.heap.size 60 (rcells (projF x cs)) ∧ Below w.heap.size w w' := by
  have HX := Lib.hid hx
  have HC := Lib.hid hc
  have HV := Lib.hid hv
  have hmk := makeVals cs.length hcl
  clear hx hc hv
  go_enter Try.func63, Try.ntmps63
  go_wp2
  go_loop [11] (fun i => ∃ k : Nat, k ≤ cs.length ∧ i = .int .i64 k) (fun i => cs.length - (intOf i).toNat)
  case atStart => exact ⟨0, Nat.zero_le _, rfl⟩
  case round =>
    obtain ⟨k, hk, rfl⟩ := hrel
    by_cases h1 : k < cs.length
    · obtain ⟨b, o, rfl, hb, c1⟩ := slI_at HC.out h1
      obtain ⟨v1, v2⟩ := HV.out cs[k] (List.getElem_mem h1)
      generalize cs[k] = c at c1 v1 v2
      have n1 : ¬ c < 0 := by omega
      go_wp2
      go_round
      case rel => exact ⟨k + 1, by omega, by go_num⟩
      case measure => simp [intOf]; omega
    · go_wp2
      clear hmk
      have HR0 : Hid (Row (w.alloc (.cells (zerosV cs.length) 60)) w.heap.size 60 (rcells (halfP x cs 0))) := by
        show Row _ _ _ _
        have h := heap_alloc_new w (.cells (zerosV cs.length) 60)
        unfold Row halfP
        rw [h]
        simp [zerosV]
      go_loopw [34] (fun i wr => ∃ k : Nat, k ≤ cs.length ∧ i = .int .i64 k ∧ Row wr w.heap.size 60 (rcells (halfP x cs k)) ∧ Below w.heap.size w wr) (fun i _ => cs.length - (intOf i).toNat)
      case atStart => exact ⟨0, Nat.zero_le _, rfl, HR0.out, (Below.refl _ _).alloc (Nat.le_refl _) _⟩
      case round =>
        obtain ⟨j, hj, rfl, hrow, hbel⟩ := hrel
        have HR := Lib.hid hrow
        have HB := Lib.hid hbel
        by_cases h2 : j < cs.length
        · obtain ⟨b, o, rfl, hb, c1⟩ := slI_at HC.out h2
          obtain ⟨v1, v2⟩ := HV.out cs[j] (List.getElem_mem h2)
          have hp : (projF x cs)[j]! = x.getD cs[j].toNat zV := by
            rw [getElem!_pos _ _ (by rw [projF_length]; exact h2)]; simp [projF]
          have d1 := (hbel.cell (p := ⟨b, o + j, none⟩) hb).trans c1
          have HS := Lib.hid (halfP_set x cs j h2)
          have hlen := halfP_length x cs j (by omega)
          generalize cs[j] = c at c1 v1 v2 hp d1
          obtain ⟨q, rfl⟩ := Int.eq_ofNat_of_zero_le v1
          have hq : q < x.length := by omega
          rw [getD_at hq] at hp
          obtain ⟨b2, o2, rfl, hb2, e1, e2, e3⟩ := slR_at HX.out hq
          have g1 := (hbel.cell (p := ⟨b2, o2 + q * 3, none⟩) hb2).trans e1
          have g2 := (hbel.cell (p := ⟨b2, o2 + q * 3 + 1, none⟩) hb2).trans e2
          have g3 := (hbel.cell (p := ⟨b2, o2 + q * 3 + 2, none⟩) hb2).trans e3
          have hset := rcells_set (halfP x cs j) j x[q] (by omega)
          rw [hp] at HS
          rw [HS.out] at hset
          clear hp HS
          generalize hxq : x[q] = u at g1 g2 g3 hset
          have HSET := Lib.hid hset
          have hl3 : (rcells (halfP x cs j)).length = cs.length * 3 := by rw [rcells_length, hlen]
          obtain ⟨t0, r0⟩ : ∃ t, wr.cell? ⟨w.heap.size, j * 3, none⟩ = some t := ⟨_, hrow.cell_ (by omega)⟩
          obtain ⟨t1, r1⟩ : ∃ t, wr.cell? ⟨w.heap.size, j * 3 + 1, none⟩ = some t := ⟨_, hrow.cell_ (by omega)⟩
          obtain ⟨t2, r2⟩ : ∃ t, wr.cell? ⟨w.heap.size, j * 3 + 2, none⟩ = some t := ⟨_, hrow.cell_ (by omega)⟩
          have z0 := hrow.frozen (j * 3)
          have z1 := hrow.frozen (j * 3 + 1)
          have z2 := hrow.frozen (j * 3 + 2)
          have hzz := hbel.size
          have hzr := hrow.lt
          have HNEW := Lib.hid (((hrow.set (j * 3) (.int .i64 u.kind)).set (j * 3 + 1) (.int .i64 u.int)).set (j * 3 + 2) (.string u.str))
          have HBN := Lib.hid (((hbel.setCell (p := ⟨w.heap.size, j * 3, none⟩) (Nat.le_refl _) (.int .i64 u.kind)).setCell (p := ⟨w.heap.size, j * 3 + 1, none⟩) (Nat.le_refl _) (.int .i64 u.int)).setCell (p := ⟨w.heap.size, j * 3 + 2, none⟩) (Nat.le_refl _) (.string u.str))
          rw [← HSET.out] at HNEW
          clear hset hxq hrow hbel hlen hl3 c1 e1 e2 e3 HR HB HR0 HSET
          go_wp2
          go_roundw
          case rel => exact ⟨j + 1, by omega, by go_num, HNEW.out, HBN.out⟩
          case measure => simp [intOf]; omega
        · have HE : Hid (halfP x cs j = projF x cs) := by
            show _ = _
            unfold halfP
            rw [List.take_of_length_le (by rw [projF_length]; omega), show cs.length - j = 0 by omega]; simp
          rw [HE.out] at HR
          go_wp2
          go_ret2
          exact ⟨rfl, HR.out, hbel⟩

end Go.Proofs.Ytiopkooigeaneaa

/- Walks: a database's Relation; Check, Schema, Relation of the zero Database. -/
import Derived.Test.YtdadchpiibipoaaGreatDoorHC33
namespace Go.Proofs.YtdadchpiibipoaaGreatDoor
open Go.RowKit Go.Sort Go.ChangeMaps Go.WideShapes

theorem look_nilE (nm : ByteArray) (h : nm.size ≤ 9223372036854775807) (w : World) : (Instr.lookup 26 (.map none) (.string nm) true).run Tryz.prog w = .ok (.tuple #[.agg #[.slice none 0 0, .int .i64 0, .slice none 0 0], .bool false]) w := by
  have h := Maps.look_nil (w := w) true keyedS Tryz.underlying26 (zeroEnt w) (keyS h)
  simpa using h
set_option maxHeartbeats 2000000 in
set_option maxRecDepth 100000 in
theorem ctRelation_nil (nm : ByteArray) (hnm : nm.size ≤ 9223372036854775807) (w : World) : Calls Tryz.prog 23 #[.agg #[.map none], .string nm] w fun e w' => e = .returned (.tuple #[.agg #[.int .i64 0, .slice none 0 0], .bool false]) ∧ Below w.heap.size w w' := by
  have hlk := look_nilE nm hnm
  have HB : Hid (Below w.heap.size w (((w.alloc (.cells #[.map none] 28)).alloc (.cells #[.int .i64 0, .slice none 0 0] 56)).alloc (.cells #[.slice none 0 0, .int .i64 0, .slice none 0 0] 99))) := ((((Ext.refl w).alloc _).alloc _).alloc _).below
  go_enter Tryz.func23, Tryz.ntmps23
  go_wp2_with fail
  exact bodyPost_ret (v := .tuple #[.agg #[.int .i64 0, .slice none 0 0], .bool false]) (by simp [results, Tryz.results23, go_sem]) rfl ⟨rfl, HB.out⟩
set_option maxHeartbeats 2000000 in
set_option maxRecDepth 100000 in
theorem ctSchema_nil (nm : ByteArray) (hnm : nm.size ≤ 9223372036854775807) (w : World) : Calls Tryz.prog 25 #[.agg #[.map none], .string nm] w fun e w' => e = .returned (.tuple #[.agg #[.string ⟨#[]⟩, .slice none 0 0], .bool false]) ∧ Below w.heap.size w w' := by
  have hlk := look_nilE nm hnm
  have HB : Hid (Below w.heap.size w (((w.alloc (.cells #[.map none] 28)).alloc (.cells #[.string ⟨#[]⟩, .slice none 0 0] 62)).alloc (.cells #[.slice none 0 0, .int .i64 0, .slice none 0 0] 99))) := ((((Ext.refl w).alloc _).alloc _).alloc _).below
  go_enter Tryz.func25, Tryz.ntmps25
  go_wp2_with fail
  exact bodyPost_ret (v := .tuple #[.agg #[.string ⟨#[]⟩, .slice none 0 0], .bool false]) (by simp [results, Tryz.results25, go_sem]) rfl ⟨rfl, HB.out⟩
set_option maxHeartbeats 2000000 in
set_option maxRecDepth 100000 in
theorem ctCheck_nil (del : Bool) (nm : ByteArray) (hnm : nm.size ≤ 9223372036854775807) (RA : Option Addr) (n RC : Nat) (w : World) : Calls Tryz.prog 21 #[.agg #[.map none], .agg #[.bool del, .string nm, .slice RA n RC]] w fun e w' => e = .returned (.int .i64 7) ∧ Below w.heap.size w w' := by
  have hlk := look_nilE nm hnm
  have HB : Hid (Below w.heap.size w (((w.alloc (.cells #[.map none] 28)).alloc (.cells #[.bool del, .string nm, .slice RA n RC] 53)).alloc (.cells #[.slice none 0 0, .int .i64 0, .slice none 0 0] 99))) := ((((Ext.refl w).alloc _).alloc _).alloc _).below
  go_enter Tryz.func21, Tryz.ntmps21
  go_wp2_with fail
  exact bodyPost_ret (v := .int .i64 7) (by simp [results, Tryz.results21, go_sem]) rfl ⟨rfl, HB.out⟩

def RelPost (P : Nat → Prop) (S : Sch) (F : Cont) (nm : ByteArray) (w : World) (e : Ending) (w' : World) : Prop :=
  (∀ ks, (nm, ks) ∈ S → ∃ A C, e = .returned (.tuple #[.agg #[.int .i64 (ks.length : Nat), .slice A (F nm).length C], .bool true]) ∧ (F nm).length ≤ C ∧ C ≤ 9223372036854775807 ∧ SlRsP P w'.heap.size w' A (F nm) ∧ RowsOk ks.length (F nm)) ∧
  (memB nm (S.map Prod.fst) = false → e = .returned (.tuple #[.agg #[.int .i64 0, .slice none 0 0], .bool false])) ∧ Below w.heap.size w w'
set_option maxHeartbeats 4000000 in
set_option maxRecDepth 100000 in
theorem ctRelation_any {P : Nat → Prop} {S : Sch} {m : Value} {F : Cont} (nm : ByteArray) (hnm : nm.size ≤ 9223372036854775807) (w : World) (hd : DbM P S w m F) (hnd : (S.map Prod.fst).Nodup) :
    Calls Tryz.prog 23 #[.agg #[m], .string nm] w (RelPost P S F nm w) := by
  obtain ⟨b, D, rfl, -, hown, hent⟩ := hd.ents
  obtain ⟨W0, hW0⟩ : ∃ W0, W0 = (w.alloc (.cells #[.map (some b)] 28)).alloc (.cells #[.int .i64 0, .slice none 0 0] 56) := ⟨_, rfl⟩
  have hb0 : Below w.heap.size w W0 := by rw [hW0]; exact (((Ext.refl w).alloc _).alloc _).below
  have hr1 : Row W0 w.heap.size 28 [.map (some b)] := by rw [hW0]; exact (Row.new w 28 _).alloc _
  have hr2 : Row W0 (w.heap.size + 1) 56 [.int .i64 0, .slice none 0 0] := by
    have h := Row.new (w.alloc (.cells #[.map (some b)] 28)) 56 [.int .i64 0, .slice none 0 0]
    rw [World.size_alloc] at h
    rw [hW0]; exact h
  have hm0 := map_up hown hb0
  have f0 : W0.cell? ⟨w.heap.size, 0, none⟩ = some (.map (some b)) := hr1.cell 0
  have z1 := hr1.lt
  cases hm : memB nm (S.map Prod.fst) with
  | false =>
    have hlk := (look_no keyedS Tryz.underlying26 zeroEnt hm0 (keyS hnm) (by rw [hent.has nm]; exact hm)).1
    have HNO : Hid (∀ ks, (nm, ks) ∉ S) := fun ks h => memB_no hm (List.mem_map.2 ⟨_, h, rfl⟩)
    have hb1 : Below w.heap.size w (W0.alloc (.cells #[.slice none 0 0, .int .i64 0, .slice none 0 0] 99)) := hb0.alloc hb0.size _
    obtain ⟨W1, hW1⟩ : ∃ W, W = W0.alloc (.cells #[.slice none 0 0, .int .i64 0, .slice none 0 0] 99) := ⟨_, rfl⟩
    have hr3 := hr2.alloc (.cells #[.slice none 0 0, .int .i64 0, .slice none 0 0] 99)
    rw [← hW1] at hb1 hr3
    have HB1 := Lib.hid hb1
    have HR3 := Lib.hid hr3
    have HR4 : Hid (Row W1 W0.heap.size 99 [.slice none 0 0, .int .i64 0, .slice none 0 0]) := by show Row _ _ _ _; rw [hW1]; exact Row.new W0 _ _
    have HMM := Lib.hid hm
    clear hown hent hm0 hr1 hr2 hb0 hb1 hr3 hd hm
    go_enter Tryz.func23, Tryz.ntmps23
    go_upto_region 1 with (fail)
    rw [← hW0]
    clear hW0
    go_upto_region 2 with (fail)
    rw [← hW1]
    clear hW1 f0 z1 hlk
    have c0 : W1.cell? ⟨W0.heap.size, 1, none⟩ = some (.int .i64 0) := HR4.out.cell 1
    have c1 : W1.cell? ⟨W0.heap.size, 2, none⟩ = some (.slice none 0 0) := HR4.out.cell 2
    have c2 := HR4.out.lt
    have c3 : W1.cell? ⟨w.heap.size + 1, 0, none⟩ = some (.int .i64 0) := HR3.out.cell 0
    have c4 : W1.cell? ⟨w.heap.size + 1, 1, none⟩ = some (.slice none 0 0) := HR3.out.cell 1
    have c5 := HR3.out.frozen 0
    have c6 := HR3.out.frozen 1
    have c7 := HR3.out.lt
    go_wp2_with fail
    obtain ⟨W2, hW2⟩ : ∃ W, W = (W1.setCell ⟨w.heap.size + 1, 0, none⟩ (.int .i64 0)).setCell ⟨w.heap.size + 1, 1, none⟩ (.slice none 0 0) := ⟨_, rfl⟩
    rw [← hW2]
    have r2 : Row W2 (w.heap.size + 1) 56 [.int .i64 0, .slice none 0 0] := by rw [hW2]; exact HR3.out.set2 _ _
    have d0 := r2.cell 0
    have d1 := r2.cell 1
    simp only [List.getElem?_cons_zero, List.getElem?_cons_succ] at d0 d1
    have hb2 : Below w.heap.size w W2 := by rw [hW2]; exact (HB1.out.setCell (p := ⟨w.heap.size + 1, 0, none⟩) (by show w.heap.size ≤ w.heap.size + 1; omega) _).setCell (p := ⟨w.heap.size + 1, 1, none⟩) (by show w.heap.size ≤ w.heap.size + 1; omega) _
    exact bodyPost_ret (v := .tuple #[.agg #[.int .i64 0, .slice none 0 0], .bool false]) (by simp [results, Tryz.results23, go_sem, d0, d1]) rfl ⟨fun ks h => absurd h (HNO.out ks), fun _ => rfl, hb2⟩
  | true =>
    obtain ⟨p, hp, hpe⟩ := List.mem_map.1 (memB_iff.1 hm)
    obtain ⟨nm2, ks⟩ := p
    have hpe : nm2 = nm := hpe
    subst hpe
    obtain ⟨val, hv1, KA, KC, A, C, rfl, hk6, hki, hxc, hxm, hsl, hro⟩ := hent.2.2 (nm2, ks) hp
    have hlk0 := (look_yes keyedS Tryz.underlying26 zeroEnt hm0 (keyS hnm) hv1).1
    have HKS : Hid (∀ ks', (nm2, ks') ∈ S → ks' = ks) := fun ks' h => (kindsOf_mem hnd h).symm.trans (kindsOf_mem hnd hp)
    obtain ⟨xl, hxl⟩ : ∃ xl, xl = (F nm2).length := ⟨_, rfl⟩
    obtain ⟨W1, hW1⟩ : ∃ W, W = W0.alloc (.cells #[.slice KA ks.length KC, .int .i64 (ks.length : Nat), .slice A xl C] 99) := ⟨_, rfl⟩
    have hb1 : Below w.heap.size w W1 := by rw [hW1]; exact hb0.alloc hb0.size _
    have hr3 : Row W1 (w.heap.size + 1) 56 [.int .i64 0, .slice none 0 0] := by rw [hW1]; exact hr2.alloc _
    have HB1 := Lib.hid hb1
    have HR3 := Lib.hid hr3
    have HR4 : Hid (Row W1 W0.heap.size 99 [.slice KA ks.length KC, .int .i64 (ks.length : Nat), .slice A xl C]) := by show Row _ _ _ _; rw [hW1]; exact Row.new W0 _ _
    have HMM := Lib.hid hm
    have HSLX : Hid (SlRsP (fun c => P c ∧ c < w.heap.size) w.heap.size w A (F nm2)) := hsl.weak fun c hc h => ⟨h, hc⟩
    have HRK : Hid (RowsOk ks.length (F nm2)) := hro
    have HXC : Hid (xl ≤ C ∧ C ≤ 9223372036854775807) := by rw [hxl]; exact ⟨hxc, hxm⟩
    have HXL := Lib.hid hxl
    have hlk : (Instr.lookup 26 (.map (some b)) (.string nm2) true).run Tryz.prog W0 = .ok (.tuple #[.agg #[.slice KA ks.length KC, .int .i64 (ks.length : Nat), .slice A xl C], .bool true]) W0 := by rw [hxl]; exact hlk0
    clear hlk0 hown hent hm0 hr1 hr2 hb0 hb1 hr3 hd hm hv1 hki hsl hro hxc hxm hp hxl
    go_enter Tryz.func23, Tryz.ntmps23
    go_upto_region 1 with (fail)
    rw [← hW0]
    clear hW0
    go_upto_region 2 with (fail)
    rw [← hW1]
    clear hW1 f0 z1 hlk
    have c0 : W1.cell? ⟨W0.heap.size, 1, none⟩ = some (.int .i64 (ks.length : Nat)) := HR4.out.cell 1
    have c1 : W1.cell? ⟨W0.heap.size, 2, none⟩ = some (.slice A xl C) := HR4.out.cell 2
    have c2 := HR4.out.lt
    have c3 : W1.cell? ⟨w.heap.size + 1, 0, none⟩ = some (.int .i64 0) := HR3.out.cell 0
    have c4 : W1.cell? ⟨w.heap.size + 1, 1, none⟩ = some (.slice none 0 0) := HR3.out.cell 1
    have c5 := HR3.out.frozen 0
    have c6 := HR3.out.frozen 1
    have c7 := HR3.out.lt
    go_wp2_with fail
    obtain ⟨W2, hW2⟩ : ∃ W, W = (W1.setCell ⟨w.heap.size + 1, 0, none⟩ (.int .i64 (ks.length : Nat))).setCell ⟨w.heap.size + 1, 1, none⟩ (.slice A xl C) := ⟨_, rfl⟩
    rw [← hW2]
    have r2 : Row W2 (w.heap.size + 1) 56 [.int .i64 (ks.length : Nat), .slice A xl C] := by rw [hW2]; exact HR3.out.set2 _ _
    have d0 := r2.cell 0
    have d1 := r2.cell 1
    simp only [List.getElem?_cons_zero, List.getElem?_cons_succ] at d0 d1
    have hb2 : Below w.heap.size w W2 := by rw [hW2]; exact (HB1.out.setCell (p := ⟨w.heap.size + 1, 0, none⟩) (by show w.heap.size ≤ w.heap.size + 1; omega) _).setCell (p := ⟨w.heap.size + 1, 1, none⟩) (by show w.heap.size ≤ w.heap.size + 1; omega) _
    refine bodyPost_ret (v := .tuple #[.agg #[.int .i64 (ks.length : Nat), .slice A xl C], .bool true]) (by simp [results, Tryz.results23, go_sem, d0, d1]) rfl ⟨fun ks' h => ?_, fun h => absurd (HMM.out.symm.trans h) (by decide), hb2⟩
    have e := HKS.out ks' h
    subst e
    have hx := HXL.out
    subst hx
    exact ⟨A, C, rfl, HXC.out.1, HXC.out.2, (HSLX.out.upB hb2).weak fun _ _ h => h.1, HRK.out⟩
end Go.Proofs.YtdadchpiibipoaaGreatDoor

/- Parts of the proof, merged: C46, C50. -/
import Derived.Test.YtdadchpiibipoaaGreatDoorQc12

set_option maxRecDepth 100000
namespace Go.Proofs.YtdadchpiibipoaaGreatDoor
section
open Go.RowKit Go.Sort Go.ChangeMaps Go.WideShapes

def MadePost (SA : Option Addr) (SC : Nat) (S : Sch) (us : List Upd) (w : World) (e : Ending) (w' : World) : Prop :=
  (errS S ≠ 0 → e = .returned (.tuple #[.agg #[.map none], .agg #[.slice SA S.length SC, .slice none 0 0], .bool false])) ∧
  (errS S = 0 → ∃ (md : Nat) (A : Option Addr) (C : Nat) (cs : List Value), e = .returned (.tuple #[.agg #[.map (some md)], .agg #[.slice SA S.length SC, .slice A (madeF S us).2.length C], .bool true]) ∧
    DbM (fun _ => True) S w' (.map (some md)) (madeF S us).1 ∧ FctCs w.heap.size w (madeF S us).2 cs ∧ w'.ownsRow w.heap.size 85 2 (.slice A (madeF S us).2.length C) (madeF S us).2.length cs) ∧ Below w.heap.size w w'

theorem FctCs.back {B : Nat} {w V : World} {Fs : List Fact} {cs : List Value} (h : FctCs B V Fs cs) (hb : Below B w V) : FctCs B w Fs cs :=
  ⟨h.len, h.one, fun i hi => by
    obtain ⟨RA, RC, a, b, c⟩ := h.at_ i hi
    exact ⟨RA, RC, a, b, Sl.keep c fun p hp => (hb.cell hp).symm⟩⟩
set_option maxHeartbeats 16000000 in
theorem l08made_any (SA : Option Addr) (SC : Nat) (S : Sch) (UA : Option Addr) (UC : Nat) (us : List Upd) (w : World) (hS : SchsM w.heap.size w SA S) (hSo : SchsOk S) (hSl : S.length ≤ 1000)
    (hU : UpdsM w.heap.size w UA us) (hUo : ∀ u ∈ us, UpdOk u) (hUl : us.length ≤ 1000) (hUc : us.length ≤ UC) :
    Calls Tryz.prog 12 #[.slice SA S.length SC, .slice UA us.length UC] w (MadePost SA SC S us w) := by
  obtain ⟨W0, hW0⟩ : ∃ W, W = (w.alloc (.cells #[.map none] 28)).alloc (.cells #[.slice none 0 0, .slice none 0 0] 31) := ⟨_, rfl⟩
  have hx0 : Ext w W0 := by rw [hW0]; exact ((Ext.refl w).alloc _).alloc _
  have hr4 : Row W0 w.heap.size 28 [.map none] := by rw [hW0]; exact (Row.new w 28 _).alloc _
  have hr5 : Row W0 (w.heap.size + 1) 31 [.slice none 0 0, .slice none 0 0] := by
    have h := Row.new (w.alloc (.cells #[.map none] 28)) 31 [.slice none 0 0, .slice none 0 0]
    rw [World.size_alloc] at h
    rw [hW0]; exact h
  have HZ0 : Hid (W0.heap.size = w.heap.size + 2) := by show _ = _; rw [hW0]; simp
  have HB0 := Lib.hid hx0.below
  have HR4 := Lib.hid hr4
  have HR5 := Lib.hid hr5
  have HS := Lib.hid hS
  have HSO := Lib.hid hSo
  have HU := Lib.hid hU
  have HUO := Lib.hid hUo
  have HN := Lib.hid (ctNew_any (fun b => w.heap.size + 2 ≤ b) SA SC S W0 (fun b hb => by have := HZ0.out; omega) (hS.up hx0.below) hSo (by omega))
  clear hx0 hr4 hr5 hS hSo hU hUo
  go_enter Tryz.func12, Tryz.ntmps12
  go_upto_region 1 with (fail)
  rw [← hW0]
  clear hW0
  go_wp2_with fail
  refine HN.out.mono ?_
  rintro e w3 ⟨h1, h2, hb3⟩
  have HB3 := Lib.hid (HB0.out.trans (hb3.mono HB0.out.size))
  have HR4 := Lib.hid (HR4.out.up hb3)
  have HR5 := Lib.hid (HR5.out.up hb3)
  have HZ3 : Hid (w.heap.size + 2 ≤ w3.heap.size) := by show _ ≤ _; have := hb3.size; have := HZ0.out; omega
  clear HN
  by_cases he : errS S = 0
  rotate_left
  · obtain rfl := h2 he
    have hne : (errS S != 0) = true := by simpa using he
    obtain ⟨W4, hW4⟩ : ∃ W, W = w3.alloc (.cells #[.map none] 28) := ⟨_, rfl⟩
    obtain ⟨g7, hg7⟩ : ∃ g, g = w3.heap.size := ⟨_, rfl⟩
    have hb4 : Below w3.heap.size w3 W4 := by rw [hW4]; exact ((Ext.refl w3).alloc _).below
    have HR7 : Hid (Row W4 g7 28 [.map none]) := by show Row _ _ _ _; rw [hW4, hg7]; exact Row.new w3 _ _
    obtain ⟨W5, hW5⟩ : ∃ W, W = W4.alloc (.cells #[.slice SA S.length SC, .slice none 0 0] 31) := ⟨_, rfl⟩
    obtain ⟨g9, hg9⟩ : ∃ g, g = W4.heap.size := ⟨_, rfl⟩
    have hb5 : Below W4.heap.size W4 W5 := by rw [hW5]; exact ((Ext.refl W4).alloc _).below
    have HR9 : Hid (Row W5 g9 31 [.slice SA S.length SC, .slice none 0 0]) := by show Row _ _ _ _; rw [hW5, hg9]; exact Row.new W4 _ _
    have HR7 := Lib.hid (HR7.out.up hb5)
    have hb45 := hb4.trans (hb5.mono hb4.size)
    have HR4 := Lib.hid (HR4.out.up hb45)
    have HR5 := Lib.hid (HR5.out.up hb45)
    have HB5 := Lib.hid (HB3.out.trans (hb45.mono HB3.out.size))
    have HGZ : Hid (w.heap.size + 2 ≤ g7 ∧ w.heap.size + 2 ≤ g9) := by
      have h1 := hb4.size
      have h3 := HZ3.out
      exact ⟨by omega, by omega⟩
    have HE := Lib.hid he
    have HW4 := Lib.hid hW4
    have HW5 := Lib.hid hW5
    have HG7 := Lib.hid hg7
    have HG9 := Lib.hid hg9
    clear h1 h2 hb3 he hb4 hb5 hb45 hW4 hW5 hg7 hg9
    go_upto_region 2 with (fail)
    rw [← HW4.out, ← HG7.out]
    clear HW4 HG7
    have c7 : W5.cell? ⟨g7, 0, none⟩ = some (.map none) := HR7.out.cell 0
    have z7 := HR7.out.lt
    go_upto_region 4 with (fail)
    rw [← HW5.out, ← HG9.out]
    clear HW5 HG9
    have c90 : W5.cell? ⟨g9, 0, none⟩ = some (.slice SA S.length SC) := HR9.out.cell 0
    have c91 : W5.cell? ⟨g9, 1, none⟩ = some (.slice none 0 0) := HR9.out.cell 1
    have z9 := HR9.out.lt
    have p0 : W5.drew.cell? ⟨w.heap.size, 0, none⟩ = some (.map none) := HR4.out.cell 0
    have p1 : W5.drew.frozen? ⟨w.heap.size, 0, none⟩ = false := HR4.out.frozen 0
    have p3 : W5.drew.cell? ⟨w.heap.size + 1, 0, none⟩ = some (.slice none 0 0) := HR5.out.cell 0
    have p4 : W5.drew.cell? ⟨w.heap.size + 1, 1, none⟩ = some (.slice none 0 0) := HR5.out.cell 1
    have p5 : W5.drew.frozen? ⟨w.heap.size + 1, 0, none⟩ = false := HR5.out.frozen 0
    have p6 : W5.drew.frozen? ⟨w.heap.size + 1, 1, none⟩ = false := HR5.out.frozen 1
    have p7 := HR4.out.lt
    have p8 := HR5.out.lt
    have hr5a : Row (W5.setCell ⟨w.heap.size, 0, none⟩ (.map none)).drew (w.heap.size + 1) 31 [.slice none 0 0, .slice none 0 0] := (HR5.out.far (p := ⟨w.heap.size, 0, none⟩) (by show w.heap.size + 1 ≠ w.heap.size; omega) _).drew
    have r3 : (W5.setCell ⟨w.heap.size, 0, none⟩ (.map none)).drew.cell? ⟨w.heap.size + 1, 0, none⟩ = some (.slice none 0 0) := hr5a.cell 0
    have r4 : (W5.setCell ⟨w.heap.size, 0, none⟩ (.map none)).drew.cell? ⟨w.heap.size + 1, 1, none⟩ = some (.slice none 0 0) := hr5a.cell 1
    have r5 : (W5.setCell ⟨w.heap.size, 0, none⟩ (.map none)).drew.frozen? ⟨w.heap.size + 1, 0, none⟩ = false := hr5a.frozen 0
    have r6 : (W5.setCell ⟨w.heap.size, 0, none⟩ (.map none)).drew.frozen? ⟨w.heap.size + 1, 1, none⟩ = false := hr5a.frozen 1
    have r7 := hr5a.lt
    have hr5b : Row ((W5.setCell ⟨w.heap.size, 0, none⟩ (.map none)).setCell ⟨w.heap.size + 1, 0, none⟩ (.slice SA S.length SC)).drew (w.heap.size + 1) 31 [.slice SA S.length SC, .slice none 0 0] := ((HR5.out.far (p := ⟨w.heap.size, 0, none⟩) (by show w.heap.size + 1 ≠ w.heap.size; omega) _).set 0 _).drew
    have r8 : ((W5.setCell ⟨w.heap.size, 0, none⟩ (.map none)).setCell ⟨w.heap.size + 1, 0, none⟩ (.slice SA S.length SC)).drew.cell? ⟨w.heap.size + 1, 1, none⟩ = some (.slice none 0 0) := hr5b.cell 1
    have r9 : ((W5.setCell ⟨w.heap.size, 0, none⟩ (.map none)).setCell ⟨w.heap.size + 1, 0, none⟩ (.slice SA S.length SC)).drew.frozen? ⟨w.heap.size + 1, 1, none⟩ = false := hr5b.frozen 1
    have r10 := hr5b.lt
    have hne7 : g7 ≠ w.heap.size := by have := HGZ.out; omega
    have hne9 : g9 ≠ w.heap.size := by have := HGZ.out; omega
    have HK7 := Lib.hid (HR7.out.far (p := ⟨w.heap.size, 0, none⟩) hne7 (.map none)).drew
    have HK9 := Lib.hid (HR9.out.far (p := ⟨w.heap.size, 0, none⟩) hne9 (.map none)).drew
    have KEEP : Hid ((W5.setCell ⟨w.heap.size, 0, none⟩ (.map none)).drew.cell? ⟨g7, 0, none⟩ = some (.map none) ∧ (W5.setCell ⟨w.heap.size, 0, none⟩ (.map none)).drew.cell? ⟨g9, 0, none⟩ = some (.slice SA S.length SC) ∧ (W5.setCell ⟨w.heap.size, 0, none⟩ (.map none)).drew.cell? ⟨g9, 1, none⟩ = some (.slice none 0 0)) := ⟨HK7.out.cell 0, HK9.out.cell 0, HK9.out.cell 1⟩
    clear hne7 hne9
    refine regionS (S := (fun w' => w'.cell? ⟨g7, 0, none⟩ = some (.map none) ∧ w'.cell? ⟨g9, 0, none⟩ = some (.slice SA S.length SC) ∧ w'.cell? ⟨g9, 1, none⟩ = some (.slice none 0 0))) [3, 4] (by kernel_rfl) ⟨c7, c90, c91⟩ (fun hHeld => ?_)
    refine takeS (i := 0) (v := ?_) (some 23) rfl rfl (by kernel_rfl) (by decide) (by kernel_rfl) (by kernel_rfl) (by kernel_rfl) (by kernel_rfl) (fun _ _ _ h => h) (Or.inl ⟨by rfl, ?_⟩) (by assumption) ?_
    rotate_left 1
    · (intro w0 hSw; (try dsimp only at hSw); go_simp; try (with_reducible rfl))
    try simp only [Act.put, List.setIfInBounds_toArray, List.set_cons_succ, List.set_cons_zero]
    refine takeS (i := 1) (v := ?_) (some 24) rfl rfl (by kernel_rfl) (by decide) (by kernel_rfl) (by kernel_rfl) (by kernel_rfl) (by kernel_rfl) (fun _ _ _ h => h) (Or.inl ⟨by rfl, ?_⟩) (by assumption) ?_
    rotate_left 1
    · (intro w0 hSw; (try dsimp only at hSw); go_simp; try (with_reducible rfl))
    try simp only [Act.put, List.setIfInBounds_toArray, List.set_cons_succ, List.set_cons_zero]
    refine oneS (i := 2) (by kernel_rfl) rfl (fun K hK => ?_)
    go_simp
    go_wp2_with fail
    refine hK.out _ _ KEEP.out (fun hHeld => ?_)
    clear hK K
    try simp only [Act.put, List.setIfInBounds_toArray, List.set_cons_succ, List.set_cons_zero]
    refine oneL (i := 3) (by kernel_rfl) rfl (by decide) (fun K hK => ?_)
    go_simp
    go_wp2_with fail
    refine hK.out _ _ ?_
    clear hK K
    try simp only [Act.put, List.setIfInBounds_toArray, List.set_cons_succ, List.set_cons_zero]
    refine oneL (i := 4) (by kernel_rfl) rfl (by decide) (fun K hK => ?_)
    go_simp
    go_wp2_with fail
    refine hK.out _ _ ?_
    clear hK K
    try simp only [Act.put, List.setIfInBounds_toArray, List.set_cons_succ, List.set_cons_zero]
    refine doneS (by kernel_rfl) ?_ _
    clear c7 c90 c91 p0 p1 p3 p4 p5 p6 p7 p8 r3 r4 r5 r6 r7 r8 r9 r10 hr5a hr5b z7 z9
    obtain ⟨W6, hW6⟩ : ∃ V, V = (((W5.setCell ⟨w.heap.size, 0, none⟩ (.map none)).setCell ⟨w.heap.size + 1, 0, none⟩ (.slice SA S.length SC)).setCell ⟨w.heap.size + 1, 1, none⟩ (.slice none 0 0)).drew := ⟨_, rfl⟩
    rw [← hW6]
    have HR46 : Hid (Row W6 w.heap.size 28 [.map none]) := by show Row _ _ _ _; rw [hW6]; exact (((HR4.out.set 0 _).far (p := ⟨w.heap.size + 1, 0, none⟩) (by show w.heap.size ≠ w.heap.size + 1; omega) _).far (p := ⟨w.heap.size + 1, 1, none⟩) (by show w.heap.size ≠ w.heap.size + 1; omega) _).drew
    have HR56 : Hid (Row W6 (w.heap.size + 1) 31 [.slice SA S.length SC, .slice none 0 0]) := by show Row _ _ _ _; rw [hW6]; exact (((HR5.out.far (p := ⟨w.heap.size, 0, none⟩) (by show w.heap.size + 1 ≠ w.heap.size; omega) _).set 0 _).set 1 _).drew
    have HB6 : Hid (Below w.heap.size w W6) := by show Below _ _ _; rw [hW6]; exact (((HB5.out.setCell (p := ⟨w.heap.size, 0, none⟩) (Nat.le_refl _) _).setCell (p := ⟨w.heap.size + 1, 0, none⟩) (by show w.heap.size ≤ w.heap.size + 1; omega) _).setCell (p := ⟨w.heap.size + 1, 1, none⟩) (by show w.heap.size ≤ w.heap.size + 1; omega) _).drew
    clear hW6
    have d0 : W6.cell? ⟨w.heap.size, 0, none⟩ = some (.map none) := HR46.out.cell 0
    have d1 : W6.cell? ⟨w.heap.size + 1, 0, none⟩ = some (.slice SA S.length SC) := HR56.out.cell 0
    have d2 : W6.cell? ⟨w.heap.size + 1, 1, none⟩ = some (.slice none 0 0) := HR56.out.cell 1
    go_wp2_with fail
    refine bodyPost_ret (v := .tuple #[.agg #[.map none], .agg #[.slice SA S.length SC, .slice none 0 0], .bool false]) (by simp [results, Tryz.results12, go_sem, d0, d1, d2]) rfl ⟨fun _ => rfl, fun h => absurd h HE.out, HB6.out⟩
  obtain ⟨bm, rfl, hdb⟩ := h1 he
  obtain ⟨bd, rfl⟩ := hdb.form
  obtain ⟨W4, hW4⟩ : ∃ W, W = w3.alloc (.cells #[.map (some bd)] 28) := ⟨_, rfl⟩
  obtain ⟨g7, hg7⟩ : ∃ g, g = w3.heap.size := ⟨_, rfl⟩
  have hb4 : Below w3.heap.size w3 W4 := by rw [hW4]; exact ((Ext.refl w3).alloc _).below
  have HR7 : Hid (Row W4 g7 28 [.map (some bd)]) := by show Row _ _ _ _; rw [hW4, hg7]; exact Row.new w3 _ _
  have hlt7 := HR7.out.lt
  obtain ⟨W5, hW5⟩ : ∃ W, W = W4.alloc (.cells #[.slice SA S.length SC, .slice none 0 0] 31) := ⟨_, rfl⟩
  obtain ⟨g9, hg9⟩ : ∃ g, g = W4.heap.size := ⟨_, rfl⟩
  have hb5 : Below W4.heap.size W4 W5 := by rw [hW5]; exact ((Ext.refl W4).alloc _).below
  have HR9 : Hid (Row W5 g9 31 [.slice SA S.length SC, .slice none 0 0]) := by show Row _ _ _ _; rw [hW5, hg9]; exact Row.new W4 _ _
  have HR7 := Lib.hid (HR7.out.up hb5)
  have hb45 := hb4.trans (hb5.mono hb4.size)
  have HR4 := Lib.hid (HR4.out.up hb45)
  have HR5 := Lib.hid (HR5.out.up hb45)
  have HB5 := Lib.hid (HB3.out.trans (hb45.mono HB3.out.size))
  have HGZ : Hid (w.heap.size + 2 ≤ g7 ∧ w.heap.size + 2 ≤ g9 ∧ g7 < g9) := by
    have h1 := hb4.size
    have h3 := HZ3.out
    exact ⟨by omega, by omega, by rw [hg9]; exact hlt7⟩
  have HD5 : Hid (DbM (fun b => w.heap.size + 2 ≤ b ∧ b ≠ g7 ∧ b ≠ g9) S W5 (.map (some bd)) (fun _ => [])) := by
    refine DbM.up (DbM.weak hdb fun b hb hp => ?_) hb45
    have h1 := hb4.size
    exact ⟨hp, by omega, by omega⟩
  have HE := Lib.hid he
  have HW4 := Lib.hid hW4
  have HW5 := Lib.hid hW5
  have HG7 := Lib.hid hg7
  have HG9 := Lib.hid hg9
  clear h1 h2 hb3 he hb4 hb5 hb45 hW4 hW5 hg7 hg9 hdb hlt7
  go_upto_region 2 with (fail)
  rw [← HW4.out, ← HG7.out]
  clear HW4 HG7
  have c7 : W5.cell? ⟨g7, 0, none⟩ = some (.map (some bd)) := HR7.out.cell 0
  have z7 := HR7.out.lt
  go_upto_region 5 with (fail)
  rw [← HW5.out, ← HG9.out]
  clear HW5 HG9 c7 z7
  go_wp2_with fail
  go_loopw [10] (fun iv wx => ∃ (k md l : Nat) (FA : Option Addr) (FC : Nat) (cs : List Value), k ≤ us.length ∧ iv = .int .i64 k ∧ Row wx g7 28 [.map (some md)] ∧ Row wx g9 31 [.slice SA S.length SC, .slice FA l FC] ∧ l = (madeF S (us.take k)).2.length ∧ DbM (fun b => w.heap.size + 2 ≤ b ∧ b ≠ g7 ∧ b ≠ g9) S wx (.map (some md)) (madeF S (us.take k)).1 ∧ FctCs w.heap.size w (madeF S (us.take k)).2 cs ∧ wx.ownsRow w.heap.size 85 2 (.slice FA l FC) l cs ∧ (∀ f ∈ (madeF S (us.take k)).2, f.2.length ≤ 1000000) ∧ Below (w.heap.size + 2) W5 wx) (fun iv _ => us.length - (intOf iv).toNat)
  case atStart => exact ⟨0, bd, 0, none, 0, [], Nat.zero_le _, rfl, HR7.out, HR9.out, rfl, HD5.out, FctCs.nil, own_nil _ _ _ _, fun f hf => (by cases hf), Below.refl _ _⟩
  case round =>
    obtain ⟨k, md, l, FA, FC, cs, hk, rfl, hr7, hr9, hl, hdb, hcs, hown, hrows, hbr⟩ := hrel
    clear HR7 HR9 HD5
    have HR7 := Lib.hid hr7
    have HR9 := Lib.hid hr9
    have HL := Lib.hid hl
    have HDB := Lib.hid hdb
    have HCS := Lib.hid hcs
    have HOWN := Lib.hid hown
    have HRW := Lib.hid hrows
    have HB5R := Lib.hid hbr
    have HBR := Lib.hid (HB5.out.trans (hbr.mono (by omega)))
    have HR4 := Lib.hid (HR4.out.below hbr (by omega))
    have HR5 := Lib.hid (HR5.out.below hbr (by omega))
    clear hr7 hr9 hl hdb hcs hown hrows hbr
    by_cases hkl : k < us.length
    · obtain ⟨ub, uo, rfl, hubw, huc⟩ := HU.out (by intro h0; rw [h0] at hkl; simp at hkl)
      obtain ⟨RA, RC, u0, u1, u2, hrw0⟩ := huc k hkl
      have hrx := Sl.more (Sl.below hrw0 HBR.out (Nat.le_refl _)) HBR.out.size
      have huk := HUO.out _ (List.getElem_mem hkl)
      have HMT := Lib.hid (madeF_take S hkl)
      obtain ⟨u, hu⟩ : ∃ u, u = us[k] := ⟨_, rfl⟩
      rw [← hu] at u0 u1 u2 hrx huk HMT hrw0
      clear hu
      obtain ⟨dl, nm, x⟩ := u
      have HUU : Hid (UpdsM w.heap.size w (some ⟨ub, uo + k * 3, none⟩) [⟨dl, nm, x⟩]) := by
        show UpdsM _ _ _ _
        intro _
        refine ⟨ub, uo + k * 3, rfl, hubw, fun i hi => ?_⟩
        obtain rfl : i = 0 := by simpa using hi
        exact ⟨RA, RC, u0, u1, u2, hrw0⟩
      have u0 : wr.cell? ⟨ub, uo + k * 3, none⟩ = some (.bool dl) := cell_below HBR.out u0
      have u1 : wr.cell? ⟨ub, uo + k * 3 + 1, none⟩ = some (.string nm) := cell_below HBR.out u1
      have u2 : wr.cell? ⟨ub, uo + k * 3 + 2, none⟩ = some (.slice RA x.length RC) := cell_below HBR.out u2
      have hub : ub < wr.heap.size := Nat.lt_of_lt_of_le hubw HBR.out.size
      have HRX : Hid (SlR wr.heap.size wr RA x) := hrx
      have HRW0 : Hid (SlR w.heap.size w RA x) := hrw0
      have HUK : Hid (UpdOk ⟨dl, nm, x⟩) := huk
      obtain ⟨F0, hF0⟩ : ∃ F, F = (madeF S (us.take k)).1 := ⟨_, rfl⟩
      rw [← hF0] at HDB
      have HF0 := Lib.hid hF0
      obtain ⟨r1, hr1⟩ : ∃ r, r = applyF S F0 0 [⟨dl, nm, x⟩] := ⟨_, rfl⟩
      have HR1 : Hid (applyF S F0 0 [⟨dl, nm, x⟩] = r1) := hr1.symm
      have g1 : (0 : Int) ≤ (k : Int) := by omega
      have g2 : (k : Int) < (us.length : Int) := by omega
      have b0 : wr.cell? ⟨g7, 0, none⟩ = some (.map (some md)) := HR7.out.cell 0
      have z7 := HR7.out.lt
      have HZW : Hid (w.heap.size + 2 ≤ wr.heap.size ∧ g7 < wr.heap.size ∧ g9 < wr.heap.size) := ⟨by have := HGZ.out; omega, z7, HR9.out.lt⟩
      have HKP : Hid (∀ V, Below wr.heap.size wr V → V.cell? ⟨g7, 0, none⟩ = some (.map (some md)) ∧ V.cell? ⟨ub, uo + k * 3, none⟩ = some (.bool dl) ∧ V.cell? ⟨ub, uo + k * 3 + 1, none⟩ = some (.string nm) ∧ V.cell? ⟨ub, uo + k * 3 + 2, none⟩ = some (.slice RA x.length RC)) := fun V hb => ⟨cell_below hb b0, cell_below hb u0, cell_below hb u1, cell_below hb u2⟩
      have HKL := Lib.hid hkl
      clear hubw huc hrw0 hrx huk hF0 hr1 hkl
      go_upto_region 8 with (fail)
      go_cut [11, 12, 13] from 31 to 42 (fun q1 q2 q3 wx => ∃ (g : Nat) (mx : Option Nat) (c : Nat), q1 = .pointer (some ⟨g, 0, none⟩) ∧ q2 = .int .i64 (c : Nat) ∧ q3 = .int .i64 r1.1 ∧ wr.heap.size ≤ g ∧ Row wx g 28 [.map mx] ∧ (r1.1 = 0 → DbM (fun b => w.heap.size + 2 ≤ b ∧ b ≠ g7 ∧ b ≠ g9) S wx (.map mx) r1.2.1) ∧ (r1.1 ≠ 0 → mx = none) ∧ Below wr.heap.size wr wx)
      case first =>
        refine wp_region_held_drew (S := (fun w' => w'.cell? ⟨g7, 0, none⟩ = some (.map (some md)) ∧ w'.cell? ⟨ub, uo + k * 3, none⟩ = some (.bool dl) ∧ w'.cell? ⟨ub, uo + k * 3 + 1, none⟩ = some (.string nm) ∧ w'.cell? ⟨ub, uo + k * 3 + 2, none⟩ = some (.slice RA x.length RC))) (by kernel_rfl) (HKP.out wr.drew (Below.refl _ _).drew) (fun hHeld => ?_)
        obtain ⟨V0, hV0⟩ : ∃ V, V = wr.drew := ⟨_, rfl⟩
        have HV : Hid (Below wr.heap.size wr V0) := by show Below _ _ _; rw [hV0]; exact (Below.refl _ _).drew
        have HDX : Hid (DbM (fun b => w.heap.size + 2 ≤ b ∧ b ≠ g7 ∧ b ≠ g9) S V0 (.map (some md)) F0) := by show DbM _ _ _ _ _; rw [hV0]; exact HDB.out.up (Below.refl _ _).drew
        rw [← hV0] at hHeld ⊢
        clear hV0
        refine takeOp (i := 0) (v := ?_) (some 32) rfl rfl (by kernel_rfl) (by kernel_rfl) (by kernel_rfl) (fun _ _ _ h => h) (Or.inl ⟨by rfl, ?_⟩) (by assumption) ?_
        rotate_left 1
        · (intro w0 hSw; (try dsimp only at hSw); go_simp; try (with_reducible rfl))
        try simp only [Act.put, List.setIfInBounds_toArray, List.set_cons_succ, List.set_cons_zero]
        refine takeOp (i := 1) (v := ?_) (some 33) rfl rfl (by kernel_rfl) (by kernel_rfl) (by kernel_rfl) (fun _ _ _ h => h) (Or.inl ⟨by rfl, ?_⟩) (by assumption) ?_
        rotate_left 1
        · (intro w0 hSw; (try dsimp only at hSw); go_simp; try (with_reducible rfl))
        try simp only [Act.put, List.setIfInBounds_toArray, List.set_cons_succ, List.set_cons_zero]
        refine takeOp (i := 2) (v := ?_) (some 34) rfl rfl (by kernel_rfl) (by kernel_rfl) (by kernel_rfl) (fun _ _ _ h => h) (Or.inl ⟨by rfl, ?_⟩) (by assumption) ?_
        rotate_left 1
        · (intro w0 hSw; (try dsimp only at hSw); go_simp; try (with_reducible rfl))
        try simp only [Act.put, List.setIfInBounds_toArray, List.set_cons_succ, List.set_cons_zero]
        refine takeOp (i := 3) (v := ?_) (some 35) rfl rfl (by kernel_rfl) (by kernel_rfl) (by kernel_rfl) (fun _ _ _ h => h) (Or.inl ⟨by rfl, ?_⟩) (by assumption) ?_
        rotate_left 1
        · (intro w0 hSw; (try dsimp only at hSw); go_simp; try (with_reducible rfl))
        try simp only [Act.put, List.setIfInBounds_toArray, List.set_cons_succ, List.set_cons_zero]
        refine takeOp (i := 4) (v := ?_) (some 36) rfl rfl (by kernel_rfl) (by kernel_rfl) (by kernel_rfl) (fun _ _ _ h => h) (Or.inl ⟨by rfl, ?_⟩) (by assumption) ?_
        rotate_left 1
        · (intro w0 hSw; (try dsimp only at hSw); go_simp; try (with_reducible rfl))
        try simp only [Act.put, List.setIfInBounds_toArray, List.set_cons_succ, List.set_cons_zero]
        refine wpAnyH_ready (rs := [5, 11]) (by kernel_rfl) (by simp) ?_
        refine (AllReadyH.cons rfl (fun K hK => ?_) (AllReadyH.cons rfl (fun K hK => ?_) AllReadyH.nil))
        · go_simp
          obtain ⟨V1, hV⟩ : ∃ V', V' = V0.alloc (.cells #[.bool dl, .string nm, .slice RA x.length RC] 53) := ⟨_, rfl⟩
          rw [← hV]
          have hb : Below V0.heap.size V0 V1 := by rw [hV]; exact ((Ext.refl V0).alloc _).below
          obtain ⟨eb, heb⟩ : ∃ g, g = V0.heap.size := ⟨_, rfl⟩
          rw [← heb]
          have HEB : Hid (Row V1 eb 53 [.bool dl, .string nm, .slice RA x.length RC]) := by show Row _ _ _ _; rw [hV, heb]; exact Row.new V0 _ _
          clear heb
          have HDX := Lib.hid (HDX.out.up hb)
          have HV := Lib.hid (Below.then HV.out hb HV.out.size)
          clear hb hV
          refine hK.out _ _ (HKP.out V1 HV.out) (fun hHeld => ?_)
          clear hK K
          try simp only [Act.put, List.setIfInBounds_toArray, List.set_cons_succ, List.set_cons_zero]
          refine wpAnyH_ready (rs := [6, 11]) (by kernel_rfl) (by simp) ?_
          refine (AllReadyH.cons rfl (fun K hK => ?_) (AllReadyH.cons rfl (fun K hK => ?_) AllReadyH.nil))
          · go_simp
            have hap := ctApply_any (fun b => w.heap.size + 2 ≤ b ∧ b ≠ g7 ∧ b ≠ g9) S (.map (some md)) F0 (some ⟨eb, 0, none⟩) 1 [⟨dl, nm, x⟩] V1 HDX.out (fun b hb => ⟨by have := HV.out.size; have := HZW.out; omega, by have := HV.out.size; have := HZW.out; omega, by have := HV.out.size; have := HZW.out; omega⟩) (UpdsM.of_cs (UpdCs.one1 ⟨dl, nm, x⟩ RA RC (Sl.more (Sl.below HRX.out HV.out (Nat.le_refl _)) HV.out.size)) HEB.out.sl) (fun u hu => by rw [List.mem_singleton.1 hu]; exact HUK.out) (by simp) (by omega)
            rw [HR1.out] at hap
            refine hap.mono ?_
            rintro e V2 hp
            obtain ⟨mx, c, rfl, hok, hbad, hb⟩ := hp.shape
            have HOKX : Hid (r1.1 = 0 → DbM (fun b => w.heap.size + 2 ≤ b ∧ b ≠ g7 ∧ b ≠ g9) S V2 (.map mx) r1.2.1) := fun h => (hok h).2
            have HBADX : Hid (r1.1 ≠ 0 → mx = none) := fun h => (hbad h).2
            have HV := Lib.hid (Below.then HV.out hb HV.out.size)
            clear hok hbad hb hp hap
            go_wp2_with fail
            refine hK.out _ _ (HKP.out V2 HV.out) (fun hHeld => ?_)
            clear hK K
            try simp only [Act.put, List.setIfInBounds_toArray, List.set_cons_succ, List.set_cons_zero]
            refine takeOp (i := 7) (v := ?_) (some 31) rfl rfl (by kernel_rfl) (by kernel_rfl) (by kernel_rfl) (fun _ _ _ h => h) (Or.inl ⟨by rfl, ?_⟩) (by assumption) ?_
            rotate_left 1
            · (intro w0 hSw; (try dsimp only at hSw); go_simp; try (with_reducible rfl))
            try simp only [Act.put, List.setIfInBounds_toArray, List.set_cons_succ, List.set_cons_zero]
            refine takeOp (i := 8) (v := ?_) (some 39) rfl rfl (by kernel_rfl) (by kernel_rfl) (by kernel_rfl) (fun _ _ _ h => h) (Or.inl ⟨by rfl, ?_⟩) (by assumption) ?_
            rotate_left 1
            · (intro w0 hSw; (try dsimp only at hSw); go_simp; try (with_reducible rfl))
            try simp only [Act.put, List.setIfInBounds_toArray, List.set_cons_succ, List.set_cons_zero]
            refine takeOp (i := 9) (v := ?_) (some 40) rfl rfl (by kernel_rfl) (by kernel_rfl) (by kernel_rfl) (fun _ _ _ h => h) (Or.inl ⟨by rfl, ?_⟩) (by assumption) ?_
            rotate_left 1
            · (intro w0 hSw; (try dsimp only at hSw); go_simp; try (with_reducible rfl))
            try simp only [Act.put, List.setIfInBounds_toArray, List.set_cons_succ, List.set_cons_zero]
            refine takeOp (i := 10) (v := ?_) (some 41) rfl rfl (by kernel_rfl) (by kernel_rfl) (by kernel_rfl) (fun _ _ _ h => h) (Or.inl ⟨by rfl, ?_⟩) (by assumption) ?_
            rotate_left 1
            · (intro w0 hSw; (try dsimp only at hSw); go_simp; try (with_reducible rfl))
            try simp only [Act.put, List.setIfInBounds_toArray, List.set_cons_succ, List.set_cons_zero]
            refine wpAnyH_ready (rs := [11]) (by kernel_rfl) (by simp) ?_
            refine (AllReadyH.cons rfl (fun K hK => ?_) AllReadyH.nil)
            go_simp
            obtain ⟨V3, hV⟩ : ∃ V', V' = V2.alloc (.cells #[.map none] 28) := ⟨_, rfl⟩
            rw [← hV]
            have hb : Below V2.heap.size V2 V3 := by rw [hV]; exact ((Ext.refl V2).alloc _).below
            obtain ⟨gb, hgb⟩ : ∃ g, g = V2.heap.size := ⟨_, rfl⟩
            rw [← hgb]
            have HG : Hid (Row V3 gb 28 [.map none]) := by show Row _ _ _ _; rw [hV, hgb]; exact Row.new V2 _ _
            have HGZ : Hid (wr.heap.size ≤ gb) := by show _ ≤ _; rw [hgb]; exact HV.out.size
            have HOKX : Hid (r1.1 = 0 → DbM (fun b => (w.heap.size + 2 ≤ b ∧ b ≠ g7 ∧ b ≠ g9) ∧ b ≠ gb) S V3 (.map mx) r1.2.1) := fun h => ((HOKX.out h).weak fun b hb hp => ⟨hp, by omega⟩).up hb
            clear hgb
            have HV := Lib.hid (Below.then HV.out hb HV.out.size)
            clear hb hV
            refine hK.out _ _ (HKP.out V3 HV.out) (fun hHeld => ?_)
            clear hK K
            try simp only [Act.put, List.setIfInBounds_toArray, List.set_cons_succ, List.set_cons_zero]
            refine wpAnyH_ready (rs := [12]) (by kernel_rfl) (by simp) ?_
            refine (AllReadyH.cons rfl (fun K hK => ?_) AllReadyH.nil)
            have m0 := HG.out.frozen 0
            have m2 := HG.out.lt
            have m3 : V3.cell? ⟨gb, 0, none⟩ = some (.map none) := HG.out.cell 0
            go_simp
            obtain ⟨V4, hV⟩ : ∃ V', V' = V3.setCell ⟨gb, 0, none⟩ (.map mx) := ⟨_, rfl⟩
            rw [← hV]
            have HG : Hid (Row V4 gb 28 [.map mx]) := by show Row _ _ _ _; rw [hV]; exact HG.out.set 0 _
            have HOKX : Hid (r1.1 = 0 → DbM (fun b => (w.heap.size + 2 ≤ b ∧ b ≠ g7 ∧ b ≠ g9) ∧ b ≠ gb) S V4 (.map mx) r1.2.1) := fun h => by rw [hV]; exact (HOKX.out h).keep (Stay.set (fun hp => hp.2 rfl) 0 _)
            have HV : Hid (Below wr.heap.size wr V4) := by show Below _ _ _; rw [hV]; exact HV.out.setCell (p := ⟨gb, 0, none⟩) HGZ.out _
            clear hV m0 m2 m3
            refine hK.out _ _ (HKP.out V4 HV.out) (fun hHeld => ?_)
            clear hK K
            try simp only [Act.put, List.setIfInBounds_toArray, List.set_cons_succ, List.set_cons_zero]
            refine takeOp (i := 13) (v := ?_) (some 12) rfl rfl (by kernel_rfl) (by kernel_rfl) (by kernel_rfl) (fun _ _ _ h => h) (Or.inl ⟨by rfl, ?_⟩) (by assumption) ?_
            rotate_left 1
            · (intro w0 hSw; (try dsimp only at hSw); go_simp; try (with_reducible rfl))
            try simp only [Act.put, List.setIfInBounds_toArray, List.set_cons_succ, List.set_cons_zero]
            refine takeOp (i := 14) (v := ?_) (some 13) rfl rfl (by kernel_rfl) (by kernel_rfl) (by kernel_rfl) (fun _ _ _ h => h) (Or.inl ⟨by rfl, ?_⟩) (by assumption) ?_
            rotate_left 1
            · (intro w0 hSw; (try dsimp only at hSw); go_simp; try (with_reducible rfl))
            try simp only [Act.put, List.setIfInBounds_toArray, List.set_cons_succ, List.set_cons_zero]
            refine wpAnyH_done (by kernel_rfl) ?_ _
            go_wp2_with fail
            go_meet
            case rel => exact ⟨gb, mx, c, rfl, rfl, rfl, HGZ.out, HG.out, fun h => (HOKX.out h).weak fun _ _ hp => hp.1, HBADX.out, HV.out⟩
          · go_simp
            obtain ⟨V2, hV⟩ : ∃ V', V' = V1.alloc (.cells #[.map none] 28) := ⟨_, rfl⟩
            rw [← hV]
            have hb : Below V1.heap.size V1 V2 := by rw [hV]; exact ((Ext.refl V1).alloc _).below
            have HEB := Lib.hid (HEB.out.up hb)
            obtain ⟨gb, hgb⟩ : ∃ g, g = V1.heap.size := ⟨_, rfl⟩
            rw [← hgb]
            have HG : Hid (Row V2 gb 28 [.map none]) := by show Row _ _ _ _; rw [hV, hgb]; exact Row.new V1 _ _
            have HGZ : Hid (wr.heap.size ≤ gb) := by show _ ≤ _; rw [hgb]; exact HV.out.size
            have HDX : Hid (DbM (fun b => (w.heap.size + 2 ≤ b ∧ b ≠ g7 ∧ b ≠ g9) ∧ b ≠ gb) S V2 (.map (some md)) F0) := (HDX.out.weak fun b hb hp => ⟨hp, by omega⟩).up hb
            clear hgb
            have HV := Lib.hid (Below.then HV.out hb HV.out.size)
            clear hb hV
            refine hK.out _ _ (HKP.out V2 HV.out) (fun hHeld => ?_)
            clear hK K
            try simp only [Act.put, List.setIfInBounds_toArray, List.set_cons_succ, List.set_cons_zero]
            refine wpAnyH_ready (rs := [6]) (by kernel_rfl) (by simp) ?_
            refine (AllReadyH.cons rfl (fun K hK => ?_) AllReadyH.nil)
            go_simp
            have hap := ctApply_any (fun b => (w.heap.size + 2 ≤ b ∧ b ≠ g7 ∧ b ≠ g9) ∧ b ≠ gb) S (.map (some md)) F0 (some ⟨eb, 0, none⟩) 1 [⟨dl, nm, x⟩] V2 HDX.out (fun b hb => ⟨⟨by have := HV.out.size; have := HZW.out; omega, by have := HV.out.size; have := HZW.out; omega, by have := HV.out.size; have := HZW.out; omega⟩, by have := HG.out.lt; omega⟩) (UpdsM.of_cs (UpdCs.one1 ⟨dl, nm, x⟩ RA RC (Sl.more (Sl.below HRX.out HV.out (Nat.le_refl _)) HV.out.size)) HEB.out.sl) (fun u hu => by rw [List.mem_singleton.1 hu]; exact HUK.out) (by simp) (by omega)
            rw [HR1.out] at hap
            refine hap.mono ?_
            rintro e V3 hp
            obtain ⟨mx, c, rfl, hok, hbad, hb⟩ := hp.shape
            have HOKX : Hid (r1.1 = 0 → DbM (fun b => (w.heap.size + 2 ≤ b ∧ b ≠ g7 ∧ b ≠ g9) ∧ b ≠ gb) S V3 (.map mx) r1.2.1) := fun h => (hok h).2
            have HBADX : Hid (r1.1 ≠ 0 → mx = none) := fun h => (hbad h).2
            have HG := Lib.hid (HG.out.up hb)
            have HV := Lib.hid (Below.then HV.out hb HV.out.size)
            clear hok hbad hb hp hap
            go_wp2_with fail
            refine hK.out _ _ (HKP.out V3 HV.out) (fun hHeld => ?_)
            clear hK K
            try simp only [Act.put, List.setIfInBounds_toArray, List.set_cons_succ, List.set_cons_zero]
            refine takeOp (i := 7) (v := ?_) (some 31) rfl rfl (by kernel_rfl) (by kernel_rfl) (by kernel_rfl) (fun _ _ _ h => h) (Or.inl ⟨by rfl, ?_⟩) (by assumption) ?_
            rotate_left 1
            · (intro w0 hSw; (try dsimp only at hSw); go_simp; try (with_reducible rfl))
            try simp only [Act.put, List.setIfInBounds_toArray, List.set_cons_succ, List.set_cons_zero]
            refine takeOp (i := 8) (v := ?_) (some 39) rfl rfl (by kernel_rfl) (by kernel_rfl) (by kernel_rfl) (fun _ _ _ h => h) (Or.inl ⟨by rfl, ?_⟩) (by assumption) ?_
            rotate_left 1
            · (intro w0 hSw; (try dsimp only at hSw); go_simp; try (with_reducible rfl))
            try simp only [Act.put, List.setIfInBounds_toArray, List.set_cons_succ, List.set_cons_zero]
            refine takeOp (i := 9) (v := ?_) (some 40) rfl rfl (by kernel_rfl) (by kernel_rfl) (by kernel_rfl) (fun _ _ _ h => h) (Or.inl ⟨by rfl, ?_⟩) (by assumption) ?_
            rotate_left 1
            · (intro w0 hSw; (try dsimp only at hSw); go_simp; try (with_reducible rfl))
            try simp only [Act.put, List.setIfInBounds_toArray, List.set_cons_succ, List.set_cons_zero]
            refine takeOp (i := 10) (v := ?_) (some 41) rfl rfl (by kernel_rfl) (by kernel_rfl) (by kernel_rfl) (fun _ _ _ h => h) (Or.inl ⟨by rfl, ?_⟩) (by assumption) ?_
            rotate_left 1
            · (intro w0 hSw; (try dsimp only at hSw); go_simp; try (with_reducible rfl))
            try simp only [Act.put, List.setIfInBounds_toArray, List.set_cons_succ, List.set_cons_zero]
            refine wpAnyH_ready (rs := [12]) (by kernel_rfl) (by simp) ?_
            refine (AllReadyH.cons rfl (fun K hK => ?_) AllReadyH.nil)
            have m0 := HG.out.frozen 0
            have m2 := HG.out.lt
            have m3 : V3.cell? ⟨gb, 0, none⟩ = some (.map none) := HG.out.cell 0
            go_simp
            obtain ⟨V4, hV⟩ : ∃ V', V' = V3.setCell ⟨gb, 0, none⟩ (.map mx) := ⟨_, rfl⟩
            rw [← hV]
            have HG : Hid (Row V4 gb 28 [.map mx]) := by show Row _ _ _ _; rw [hV]; exact HG.out.set 0 _
            have HOKX : Hid (r1.1 = 0 → DbM (fun b => (w.heap.size + 2 ≤ b ∧ b ≠ g7 ∧ b ≠ g9) ∧ b ≠ gb) S V4 (.map mx) r1.2.1) := fun h => by rw [hV]; exact (HOKX.out h).keep (Stay.set (fun hp => hp.2 rfl) 0 _)
            have HV : Hid (Below wr.heap.size wr V4) := by show Below _ _ _; rw [hV]; exact HV.out.setCell (p := ⟨gb, 0, none⟩) HGZ.out _
            clear hV m0 m2 m3
            refine hK.out _ _ (HKP.out V4 HV.out) (fun hHeld => ?_)
            clear hK K
            try simp only [Act.put, List.setIfInBounds_toArray, List.set_cons_succ, List.set_cons_zero]
            refine takeOp (i := 13) (v := ?_) (some 12) rfl rfl (by kernel_rfl) (by kernel_rfl) (by kernel_rfl) (fun _ _ _ h => h) (Or.inl ⟨by rfl, ?_⟩) (by assumption) ?_
            rotate_left 1
            · (intro w0 hSw; (try dsimp only at hSw); go_simp; try (with_reducible rfl))
            try simp only [Act.put, List.setIfInBounds_toArray, List.set_cons_succ, List.set_cons_zero]
            refine takeOp (i := 14) (v := ?_) (some 13) rfl rfl (by kernel_rfl) (by kernel_rfl) (by kernel_rfl) (fun _ _ _ h => h) (Or.inl ⟨by rfl, ?_⟩) (by assumption) ?_
            rotate_left 1
            · (intro w0 hSw; (try dsimp only at hSw); go_simp; try (with_reducible rfl))
            try simp only [Act.put, List.setIfInBounds_toArray, List.set_cons_succ, List.set_cons_zero]
            refine wpAnyH_done (by kernel_rfl) ?_ _
            go_wp2_with fail
            go_meet
            case rel => exact ⟨gb, mx, c, rfl, rfl, rfl, HGZ.out, HG.out, fun h => (HOKX.out h).weak fun _ _ hp => hp.1, HBADX.out, HV.out⟩
        · go_simp
          obtain ⟨V1, hV⟩ : ∃ V', V' = V0.alloc (.cells #[.map none] 28) := ⟨_, rfl⟩
          rw [← hV]
          have hb : Below V0.heap.size V0 V1 := by rw [hV]; exact ((Ext.refl V0).alloc _).below
          obtain ⟨gb, hgb⟩ : ∃ g, g = V0.heap.size := ⟨_, rfl⟩
          rw [← hgb]
          have HG : Hid (Row V1 gb 28 [.map none]) := by show Row _ _ _ _; rw [hV, hgb]; exact Row.new V0 _ _
          have HGZ : Hid (wr.heap.size ≤ gb) := by show _ ≤ _; rw [hgb]; exact HV.out.size
          have HDX : Hid (DbM (fun b => (w.heap.size + 2 ≤ b ∧ b ≠ g7 ∧ b ≠ g9) ∧ b ≠ gb) S V1 (.map (some md)) F0) := (HDX.out.weak fun b hb hp => ⟨hp, by omega⟩).up hb
          clear hgb
          have HV := Lib.hid (Below.then HV.out hb HV.out.size)
          clear hb hV
          refine hK.out _ _ (HKP.out V1 HV.out) (fun hHeld => ?_)
          clear hK K
          try simp only [Act.put, List.setIfInBounds_toArray, List.set_cons_succ, List.set_cons_zero]
          refine wpAnyH_ready (rs := [5]) (by kernel_rfl) (by simp) ?_
          refine (AllReadyH.cons rfl (fun K hK => ?_) AllReadyH.nil)
          go_simp
          obtain ⟨V2, hV⟩ : ∃ V', V' = V1.alloc (.cells #[.bool dl, .string nm, .slice RA x.length RC] 53) := ⟨_, rfl⟩
          rw [← hV]
          have hb : Below V1.heap.size V1 V2 := by rw [hV]; exact ((Ext.refl V1).alloc _).below
          have HG := Lib.hid (HG.out.up hb)
          obtain ⟨eb, heb⟩ : ∃ g, g = V1.heap.size := ⟨_, rfl⟩
          rw [← heb]
          have HEB : Hid (Row V2 eb 53 [.bool dl, .string nm, .slice RA x.length RC]) := by show Row _ _ _ _; rw [hV, heb]; exact Row.new V1 _ _
          clear heb
          have HDX := Lib.hid (HDX.out.up hb)
          have HV := Lib.hid (Below.then HV.out hb HV.out.size)
          clear hb hV
          refine hK.out _ _ (HKP.out V2 HV.out) (fun hHeld => ?_)
          clear hK K
          try simp only [Act.put, List.setIfInBounds_toArray, List.set_cons_succ, List.set_cons_zero]
          refine wpAnyH_ready (rs := [6]) (by kernel_rfl) (by simp) ?_
          refine (AllReadyH.cons rfl (fun K hK => ?_) AllReadyH.nil)
          go_simp
          have hap := ctApply_any (fun b => (w.heap.size + 2 ≤ b ∧ b ≠ g7 ∧ b ≠ g9) ∧ b ≠ gb) S (.map (some md)) F0 (some ⟨eb, 0, none⟩) 1 [⟨dl, nm, x⟩] V2 HDX.out (fun b hb => ⟨⟨by have := HV.out.size; have := HZW.out; omega, by have := HV.out.size; have := HZW.out; omega, by have := HV.out.size; have := HZW.out; omega⟩, by have := HG.out.lt; omega⟩) (UpdsM.of_cs (UpdCs.one1 ⟨dl, nm, x⟩ RA RC (Sl.more (Sl.below HRX.out HV.out (Nat.le_refl _)) HV.out.size)) HEB.out.sl) (fun u hu => by rw [List.mem_singleton.1 hu]; exact HUK.out) (by simp) (by omega)
          rw [HR1.out] at hap
          refine hap.mono ?_
          rintro e V3 hp
          obtain ⟨mx, c, rfl, hok, hbad, hb⟩ := hp.shape
          have HOKX : Hid (r1.1 = 0 → DbM (fun b => (w.heap.size + 2 ≤ b ∧ b ≠ g7 ∧ b ≠ g9) ∧ b ≠ gb) S V3 (.map mx) r1.2.1) := fun h => (hok h).2
          have HBADX : Hid (r1.1 ≠ 0 → mx = none) := fun h => (hbad h).2
          have HG := Lib.hid (HG.out.up hb)
          have HV := Lib.hid (Below.then HV.out hb HV.out.size)
          clear hok hbad hb hp hap
          go_wp2_with fail
          refine hK.out _ _ (HKP.out V3 HV.out) (fun hHeld => ?_)
          clear hK K
          try simp only [Act.put, List.setIfInBounds_toArray, List.set_cons_succ, List.set_cons_zero]
          refine takeOp (i := 7) (v := ?_) (some 31) rfl rfl (by kernel_rfl) (by kernel_rfl) (by kernel_rfl) (fun _ _ _ h => h) (Or.inl ⟨by rfl, ?_⟩) (by assumption) ?_
          rotate_left 1
          · (intro w0 hSw; (try dsimp only at hSw); go_simp; try (with_reducible rfl))
          try simp only [Act.put, List.setIfInBounds_toArray, List.set_cons_succ, List.set_cons_zero]
          refine takeOp (i := 8) (v := ?_) (some 39) rfl rfl (by kernel_rfl) (by kernel_rfl) (by kernel_rfl) (fun _ _ _ h => h) (Or.inl ⟨by rfl, ?_⟩) (by assumption) ?_
          rotate_left 1
          · (intro w0 hSw; (try dsimp only at hSw); go_simp; try (with_reducible rfl))
          try simp only [Act.put, List.setIfInBounds_toArray, List.set_cons_succ, List.set_cons_zero]
          refine takeOp (i := 9) (v := ?_) (some 40) rfl rfl (by kernel_rfl) (by kernel_rfl) (by kernel_rfl) (fun _ _ _ h => h) (Or.inl ⟨by rfl, ?_⟩) (by assumption) ?_
          rotate_left 1
          · (intro w0 hSw; (try dsimp only at hSw); go_simp; try (with_reducible rfl))
          try simp only [Act.put, List.setIfInBounds_toArray, List.set_cons_succ, List.set_cons_zero]
          refine takeOp (i := 10) (v := ?_) (some 41) rfl rfl (by kernel_rfl) (by kernel_rfl) (by kernel_rfl) (fun _ _ _ h => h) (Or.inl ⟨by rfl, ?_⟩) (by assumption) ?_
          rotate_left 1
          · (intro w0 hSw; (try dsimp only at hSw); go_simp; try (with_reducible rfl))
          try simp only [Act.put, List.setIfInBounds_toArray, List.set_cons_succ, List.set_cons_zero]
          refine wpAnyH_ready (rs := [12]) (by kernel_rfl) (by simp) ?_
          refine (AllReadyH.cons rfl (fun K hK => ?_) AllReadyH.nil)
          have m0 := HG.out.frozen 0
          have m2 := HG.out.lt
          have m3 : V3.cell? ⟨gb, 0, none⟩ = some (.map none) := HG.out.cell 0
          go_simp
          obtain ⟨V4, hV⟩ : ∃ V', V' = V3.setCell ⟨gb, 0, none⟩ (.map mx) := ⟨_, rfl⟩
          rw [← hV]
          have HG : Hid (Row V4 gb 28 [.map mx]) := by show Row _ _ _ _; rw [hV]; exact HG.out.set 0 _
          have HOKX : Hid (r1.1 = 0 → DbM (fun b => (w.heap.size + 2 ≤ b ∧ b ≠ g7 ∧ b ≠ g9) ∧ b ≠ gb) S V4 (.map mx) r1.2.1) := fun h => by rw [hV]; exact (HOKX.out h).keep (Stay.set (fun hp => hp.2 rfl) 0 _)
          have HV : Hid (Below wr.heap.size wr V4) := by show Below _ _ _; rw [hV]; exact HV.out.setCell (p := ⟨gb, 0, none⟩) HGZ.out _
          clear hV m0 m2 m3
          refine hK.out _ _ (HKP.out V4 HV.out) (fun hHeld => ?_)
          clear hK K
          try simp only [Act.put, List.setIfInBounds_toArray, List.set_cons_succ, List.set_cons_zero]
          refine takeOp (i := 13) (v := ?_) (some 12) rfl rfl (by kernel_rfl) (by kernel_rfl) (by kernel_rfl) (fun _ _ _ h => h) (Or.inl ⟨by rfl, ?_⟩) (by assumption) ?_
          rotate_left 1
          · (intro w0 hSw; (try dsimp only at hSw); go_simp; try (with_reducible rfl))
          try simp only [Act.put, List.setIfInBounds_toArray, List.set_cons_succ, List.set_cons_zero]
          refine takeOp (i := 14) (v := ?_) (some 13) rfl rfl (by kernel_rfl) (by kernel_rfl) (by kernel_rfl) (fun _ _ _ h => h) (Or.inl ⟨by rfl, ?_⟩) (by assumption) ?_
          rotate_left 1
          · (intro w0 hSw; (try dsimp only at hSw); go_simp; try (with_reducible rfl))
          try simp only [Act.put, List.setIfInBounds_toArray, List.set_cons_succ, List.set_cons_zero]
          refine wpAnyH_done (by kernel_rfl) ?_ _
          go_wp2_with fail
          go_meet
          case rel => exact ⟨gb, mx, c, rfl, rfl, rfl, HGZ.out, HG.out, fun h => (HOKX.out h).weak fun _ _ hp => hp.1, HBADX.out, HV.out⟩
      case rest =>
      obtain ⟨g11, mx, c, rfl, rfl, rfl, hg11, hr11, hok, hbad, hb8⟩ := hcut
      generalize wc = w8 at *
      have HB8 := Lib.hid hb8
      have HR7 := Lib.hid (HR7.out.up hb8)
      have HR9 := Lib.hid (HR9.out.up hb8)
      have HR11 := Lib.hid hr11
      have HOK := Lib.hid hok
      have HOWN := Lib.hid (own_keep HOWN.out hb8)
      have HDB := Lib.hid (HDB.out.up hb8)
      have HB5R := Lib.hid (HB5R.out.trans (hb8.mono (by have := HZW.out; omega)))
      have hw1 : IntKind.i64.wrap ((k : Int) + 1) = ((k + 1 : Nat) : Int) := by rw [IntWalk.i64_in _ (by omega)]; omega
      clear b0 u0 u1 u2 hub z7 hb8 hr11 hok hbad hg11
      by_cases hz : r1.1 = 0
      rotate_left
      · have hne : (r1.1 == 0) = false := by simpa using hz
        have HMS : Hid (madeF S (us.take (k + 1)) = madeF S (us.take k)) := by
          show _ = _
          rw [HMT.out]
          unfold madeS
          rw [if_neg]
          intro e
          rw [← HF0.out] at e
          have h := HR1.out
          rw [applyF_one, if_pos e] at h
          exact hz (by rw [← h])
        clear hz
        go_wp2_with fail
        go_roundw
        case rel => exact ⟨k + 1, md, l, FA, FC, cs, HKL.out, by go_num, HR7.out, HR9.out, by rw [HMS.out]; exact HL.out, by rw [HMS.out, ← HF0.out]; exact HDB.out, by rw [HMS.out]; exact HCS.out, HOWN.out, by rw [HMS.out]; exact HRW.out, HB5R.out⟩
        case measure => have := HKL.out; simp [intOf]; omega
      have heq : (r1.1 == 0) = true := by simpa using hz
      have HD11 := Lib.hid (HOK.out hz)
      obtain ⟨m11, hm11⟩ := HD11.out.form
      have hm11 : mx = some m11 := by injection hm11
      subst hm11
      have e0 : w8.cell? ⟨g11, 0, none⟩ = some (.map (some m11)) := HR11.out.cell 0
      have e1 := HR11.out.lt
      have e2 := HR7.out.frozen 0
      have e3 := HR7.out.lt
      have e4 : w8.cell? ⟨g7, 0, none⟩ = some (.map (some md)) := HR7.out.cell 0
      go_upto_region 11 with (fail)
      obtain ⟨w9, hw9⟩ : ∃ V, V = w8.setCell ⟨g7, 0, none⟩ (.map (some m11)) := ⟨_, rfl⟩
      rw [← hw9]
      have hne97 : g9 ≠ g7 := by have := HGZ.out; omega
      have HOWN : Hid (w9.ownsRow w.heap.size 85 2 (.slice FA l FC) l cs) := by show World.ownsRow _ _ _ _ _ _ _; rw [hw9]; exact own_far HOWN.out (own_ne_rowF HOWN.out HR7.out (by decide)) _
      have HR7 : Hid (Row w9 g7 28 [.map (some m11)]) := by show Row _ _ _ _; rw [hw9]; exact HR7.out.set 0 _
      have HR9 : Hid (Row w9 g9 31 [.slice SA S.length SC, .slice FA l FC]) := by show Row _ _ _ _; rw [hw9]; exact HR9.out.far (p := ⟨g7, 0, none⟩) hne97 _
      have HD9 : Hid (DbM (fun b => w.heap.size + 2 ≤ b ∧ b ≠ g7 ∧ b ≠ g9) S w9 (.map (some m11)) r1.2.1) := by show DbM _ _ _ _ _; rw [hw9]; exact HD11.out.keep (Stay.set (fun hp => hp.2.1 rfl) 0 _)
      have HB59 : Hid (Below (w.heap.size + 2) W5 w9) := by show Below _ _ _; rw [hw9]; exact HB5R.out.setCell (p := ⟨g7, 0, none⟩) (by show w.heap.size + 2 ≤ g7; have := HGZ.out; omega) _
      have HB9 : Hid (Below w.heap.size w w9) := HB5.out.trans (HB59.out.mono (by omega))
      have HB59Z : Hid (w.heap.size + 2 ≤ w9.heap.size) := by show _ ≤ _; have := HR9.out.lt; have := HGZ.out; omega
      clear hw9 e0 e1 e2 e3 e4 hne97
      have HST : Hid ((stepU S F0 ⟨dl, nm, x⟩).1 = 0 ∧ r1.2.1 = (stepU S F0 ⟨dl, nm, x⟩).2.1) := by
        have h := HR1.out
        rw [applyF_one] at h
        by_cases e : (stepU S F0 ⟨dl, nm, x⟩).1 = 0
        · rw [if_pos e] at h; exact ⟨e, by rw [← h]⟩
        · rw [if_neg e] at h; exact absurd (by rw [← h] at hz; exact hz) e
      obtain ⟨Fs0, hFs0⟩ : ∃ F, F = (madeF S (us.take k)).2 := ⟨_, rfl⟩
      rw [← hFs0] at HL HCS HRW
      have HMS : Hid (madeF S (us.take (k + 1)) = (r1.2.1, (refU Fs0 ⟨dl, nm, x⟩).1)) := by
        show _ = _
        rw [HMT.out, hFs0, HST.out.2]
        unfold madeS
        rw [← HF0.out, if_pos HST.out.1]
      have HFL : Hid (Fs0.length ≤ 1000) := by
        show _ ≤ _
        rw [hFs0]
        have h := (made_rel S (us.take k) (by rw [List.length_take]; omega)).2
        rw [List.length_take] at h
        omega
      have HRA : Hid (refA S Fs0 0 [⟨dl, nm, x⟩] = (0, (refU Fs0 ⟨dl, nm, x⟩).1, 0 + if (refU Fs0 ⟨dl, nm, x⟩).2 = true then 1 else 0)) := refA_one S Fs0 ⟨dl, nm, x⟩ (step_check HST.out.1)
      clear hFs0 hz heq
      obtain ⟨Fs1, hFs1⟩ : ∃ F, F = (refU Fs0 ⟨dl, nm, x⟩).1 := ⟨_, rfl⟩
      have HRW1 : Hid (∀ f ∈ Fs1, f.2.length ≤ 1000000) := by
        show ∀ f ∈ Fs1, _
        rw [hFs1]; exact refU_rows HRW.out HUK.out.2.1
      rw [← hFs1] at HMS HRA
      clear hFs1
      obtain ⟨l1, hl1⟩ : ∃ l, l = Fs1.length := ⟨_, rfl⟩
      have HL1 := Lib.hid hl1
      clear hl1
      have HREF : Hid (∀ V, Below w9.heap.size w9 V → Calls Tryz.prog 33 #[.agg #[.slice SA S.length SC, .slice FA l FC], .slice (some ⟨ub, uo + k * 3, none⟩) 1 (UC - k)] V fun e V' => ∃ (A1 : Option Addr) (C1 m1 : Nat) (cs1 : List Value), e = .returned (.tuple #[.agg #[.slice SA S.length SC, .slice A1 l1 C1], .int .i64 (m1 : Nat), .int .i64 0]) ∧ FctCs w.heap.size w Fs1 cs1 ∧ V'.ownsRow w.heap.size 85 2 (.slice A1 l1 C1) l1 cs1 ∧ Below V.heap.size V V') := fun V hb => by
        have hbw := HB9.out.trans (hb.mono HB9.out.size)
        have hsl : Sl V.heap.size V FA cs := by
          obtain ⟨A', C', e', _, h3⟩ := Sl.of_own_n (own_keep HOWN.out hb)
          injection e' with e1 e2 e3
          subst e1
          exact h3
        have hap := r08Apply_any w.heap.size cs SA SC S FA FC Fs0 (some ⟨ub, uo + k * 3, none⟩) (UC - k) [⟨dl, nm, x⟩] V (HS.out.up hbw) hSl (hbw.size) (HCS.out.lift hbw (Nat.le_refl _)) hsl HFL.out HRW.out (HUU.out.below hbw (Nat.le_refl _)) (by simp) (fun u hu => by rw [List.mem_singleton.1 hu]; exact HUK.out.2)
        rw [← HL.out] at hap
        refine hap.mono ?_
        rintro e V' ⟨-, h2, h3⟩
        rw [HRA.out] at h2
        obtain ⟨A1, C1, cs1, he, hc, ho⟩ := h2 rfl
        rw [← HL1.out] at he ho
        exact ⟨A1, C1, _, cs1, he, hc.back hbw, own_weaken ho hbw.size, h3⟩
      have c90 : w9.cell? ⟨g9, 0, none⟩ = some (.slice SA S.length SC) := HR9.out.cell 0
      have c91 : w9.cell? ⟨g9, 1, none⟩ = some (.slice FA l FC) := HR9.out.cell 1
      have z9 := HR9.out.lt
      have q1 : (0 : Int) ≤ (k : Int) + 1 := by omega
      have q2 : (k : Int) + 1 ≤ (UC : Int) := by have := HKL.out; omega
      have q3 : ¬ UC = k := by have := HKL.out; omega
      refine regionS (S := (fun w' => w'.cell? ⟨g9, 0, none⟩ = some (.slice SA S.length SC) ∧ w'.cell? ⟨g9, 1, none⟩ = some (.slice FA l FC))) [11] (by kernel_rfl) ⟨c90, c91⟩ (fun hHeld => ?_)
      refine takeS (i := 0) (v := ?_) (some 46) rfl rfl (by kernel_rfl) (by decide) (by kernel_rfl) (by kernel_rfl) (by kernel_rfl) (by kernel_rfl) (fun _ _ _ h => h) (Or.inl ⟨by rfl, ?_⟩) (by assumption) ?_
      rotate_left 1
      · (intro w0 hSw; (try dsimp only at hSw); go_simp; try (with_reducible rfl))
      try simp only [Act.put, List.setIfInBounds_toArray, List.set_cons_succ, List.set_cons_zero]
      refine takeS (i := 1) (v := ?_) (some 47) rfl rfl (by kernel_rfl) (by decide) (by kernel_rfl) (by kernel_rfl) (by kernel_rfl) (by kernel_rfl) (fun _ _ _ h => h) (Or.inl ⟨by rfl, ?_⟩) (by assumption) ?_
      rotate_left 1
      · (intro w0 hSw; (try dsimp only at hSw); go_simp; try (with_reducible rfl))
      try simp only [Act.put, List.setIfInBounds_toArray, List.set_cons_succ, List.set_cons_zero]
      refine takeS (i := 2) (v := ?_) (some 48) rfl rfl (by kernel_rfl) (by decide) (by kernel_rfl) (by kernel_rfl) (by kernel_rfl) (by kernel_rfl) (fun _ _ _ h => h) (Or.inl ⟨by rfl, ?_⟩) (by assumption) ?_
      rotate_left 1
      · (intro w0 hSw; (try dsimp only at hSw); go_simp; try (with_reducible rfl))
      try simp only [Act.put, List.setIfInBounds_toArray, List.set_cons_succ, List.set_cons_zero]
      refine takeS (i := 3) (v := ?_) (some 49) rfl rfl (by kernel_rfl) (by decide) (by kernel_rfl) (by kernel_rfl) (by kernel_rfl) (by kernel_rfl) (fun _ _ _ h => h) (Or.inl ⟨by rfl, ?_⟩) (by assumption) ?_
      rotate_left 1
      · (intro w0 hSw; (try dsimp only at hSw); go_simp; try (with_reducible rfl))
      try simp only [Act.put, List.setIfInBounds_toArray, List.set_cons_succ, List.set_cons_zero]
      refine takeS (i := 4) (v := ?_) (some 50) rfl rfl (by kernel_rfl) (by decide) (by kernel_rfl) (by kernel_rfl) (by kernel_rfl) (by kernel_rfl) (fun _ _ _ h => h) (Or.inl ⟨by rfl, ?_⟩) (by assumption) ?_
      rotate_left 1
      · (intro w0 hSw; (try dsimp only at hSw); go_simp; try (with_reducible rfl))
      try simp only [Act.put, List.setIfInBounds_toArray, List.set_cons_succ, List.set_cons_zero]
      refine takeS (i := 5) (v := ?_) (some 51) rfl rfl (by kernel_rfl) (by decide) (by kernel_rfl) (by kernel_rfl) (by kernel_rfl) (by kernel_rfl) (fun _ _ _ h => h) (Or.inl ⟨by rfl, ?_⟩) (by assumption) ?_
      rotate_left 1
      · (intro w0 hSw; (try dsimp only at hSw); go_simp; try (with_reducible rfl))
      try simp only [Act.put, List.setIfInBounds_toArray, List.set_cons_succ, List.set_cons_zero]
      refine oneS (i := 6) (by kernel_rfl) rfl (fun K hK => ?_)
      go_simp
      refine (HREF.out w9.drew (Below.refl _ _).drew).mono ?_
      rintro e V ⟨A1, C1, m1, cs1, rfl, hc1, ho1, hbV⟩
      have hbV : Below w9.heap.size w9 V := Below.undrew hbV
      have HBV := Lib.hid hbV
      have HC1 := Lib.hid hc1
      have HO1 := Lib.hid ho1
      have HR9V := Lib.hid (HR9.out.up hbV)
      have HKK : Hid (V.cell? ⟨g9, 0, none⟩ = some (.slice SA S.length SC) ∧ V.cell? ⟨g9, 1, none⟩ = some (.slice FA l FC)) := ⟨HR9V.out.cell 0, HR9V.out.cell 1⟩
      have m0 := HR9V.out.frozen 0
      have m1 := HR9V.out.frozen 1
      have m2 := HR9V.out.lt
      have m3 : V.cell? ⟨g9, 0, none⟩ = some (.slice SA S.length SC) := HR9V.out.cell 0
      have m4 : V.cell? ⟨g9, 1, none⟩ = some (.slice FA l FC) := HR9V.out.cell 1
      clear hc1 ho1 hbV
      go_wp2_with fail
      refine hK.out _ _ HKK.out (fun hHeld => ?_)
      clear hK K
      try simp only [Act.put, List.setIfInBounds_toArray, List.set_cons_succ, List.set_cons_zero]
      refine takeS (i := 7) (v := ?_) (some 45) rfl rfl (by kernel_rfl) (by decide) (by kernel_rfl) (by kernel_rfl) (by kernel_rfl) (by kernel_rfl) (fun _ _ _ h => h) (Or.inl ⟨by rfl, ?_⟩) (by assumption) ?_
      rotate_left 1
      · (intro w0 hSw; (try dsimp only at hSw); go_simp; try (with_reducible rfl))
      try simp only [Act.put, List.setIfInBounds_toArray, List.set_cons_succ, List.set_cons_zero]
      refine takeS (i := 8) (v := ?_) (some 53) rfl rfl (by kernel_rfl) (by decide) (by kernel_rfl) (by kernel_rfl) (by kernel_rfl) (by kernel_rfl) (fun _ _ _ h => h) (Or.inl ⟨by rfl, ?_⟩) (by assumption) ?_
      rotate_left 1
      · (intro w0 hSw; (try dsimp only at hSw); go_simp; try (with_reducible rfl))
      try simp only [Act.put, List.setIfInBounds_toArray, List.set_cons_succ, List.set_cons_zero]
      refine takeFree (i := 9) (v := ?_) (some 54) rfl rfl (by kernel_rfl) (by kernel_rfl) (by kernel_rfl) (fun _ _ _ h => h) (Or.inl ⟨by rfl, ?_⟩) ?_
      rotate_left 1
      · (intro w0 hSw; (try dsimp only at hSw); go_simp; try (with_reducible rfl))
      try simp only [Act.put, List.setIfInBounds_toArray, List.set_cons_succ, List.set_cons_zero]
      refine takeFree (i := 10) (v := ?_) (some 55) rfl rfl (by kernel_rfl) (by kernel_rfl) (by kernel_rfl) (fun _ _ _ h => h) (Or.inl ⟨by rfl, ?_⟩) ?_
      rotate_left 1
      · (intro w0 hSw; (try dsimp only at hSw); go_simp; try (with_reducible rfl))
      try simp only [Act.put, List.setIfInBounds_toArray, List.set_cons_succ, List.set_cons_zero]
      refine oneL (i := 11) (by kernel_rfl) rfl (by decide) (fun K hK => ?_)
      go_simp
      go_wp2_with fail
      refine hK.out _ _ ?_
      clear hK K
      try simp only [Act.put, List.setIfInBounds_toArray, List.set_cons_succ, List.set_cons_zero]
      refine doneS (by kernel_rfl) ?_ _
      go_wp2_with fail
      obtain ⟨wZ, hwZ⟩ : ∃ W, W = (V.setCell ⟨g9, 0, none⟩ (.slice SA S.length SC)).setCell ⟨g9, 1, none⟩ (.slice A1 l1 C1) := ⟨_, rfl⟩
      rw [← hwZ]
      have hne97 : g7 ≠ g9 := by have := HGZ.out; omega
      have HR7Z : Hid (Row wZ g7 28 [.map (some m11)]) := by show Row _ _ _ _; rw [hwZ]; exact ((HR7.out.up HBV.out).far (p := ⟨g9, 0, none⟩) hne97 _).far (p := ⟨g9, 1, none⟩) hne97 _
      have HR9Z : Hid (Row wZ g9 31 [.slice SA S.length SC, .slice A1 l1 C1]) := by show Row _ _ _ _; rw [hwZ]; exact (HR9V.out.set 0 _).set 1 _
      have HDZ : Hid (DbM (fun b => w.heap.size + 2 ≤ b ∧ b ≠ g7 ∧ b ≠ g9) S wZ (.map (some m11)) r1.2.1) := by show DbM _ _ _ _ _; rw [hwZ]; exact ((HD9.out.up HBV.out).keep (Stay.set (fun hp => hp.2.2 rfl) 0 _)).keep (Stay.set (fun hp => hp.2.2 rfl) 1 _)
      have HOZ : Hid (wZ.ownsRow w.heap.size 85 2 (.slice A1 l1 C1) l1 cs1) := by show World.ownsRow _ _ _ _ _ _ _; rw [hwZ]; exact own_far (own_far HO1.out (own_ne_rowF HO1.out HR9V.out (by decide)) _) (own_ne_rowF HO1.out HR9V.out (by decide)) _
      have HBZ : Hid (Below (w.heap.size + 2) W5 wZ) := by show Below _ _ _; rw [hwZ]; exact ((HB59.out.trans (HBV.out.mono HB59Z.out)).setCell (p := ⟨g9, 0, none⟩) (by show w.heap.size + 2 ≤ g9; have := HGZ.out; omega) _).setCell (p := ⟨g9, 1, none⟩) (by show w.heap.size + 2 ≤ g9; have := HGZ.out; omega) _
      clear hwZ hne97
      go_roundw
      case rel => exact ⟨k + 1, m11, l1, A1, C1, cs1, HKL.out, by go_num, HR7Z.out, HR9Z.out, by rw [HMS.out]; exact HL1.out, by rw [HMS.out]; exact HDZ.out, by rw [HMS.out]; exact HC1.out, HOZ.out, by rw [HMS.out]; exact HRW1.out, HBZ.out⟩
      case measure => have := HKL.out; simp [intOf]; omega
    · obtain rfl : k = us.length := by omega
      rw [List.take_length] at HL HDB HCS
      have hdl : decide ((us.length : Int) < (us.length : Int)) = false := decide_eq_false (by omega)
      have c7 : wr.cell? ⟨g7, 0, none⟩ = some (.map (some md)) := HR7.out.cell 0
      have z7 := HR7.out.lt
      clear hkl
      go_upto_region 12 with (fail)
      have c90 : wr.cell? ⟨g9, 0, none⟩ = some (.slice SA S.length SC) := HR9.out.cell 0
      have c91 : wr.cell? ⟨g9, 1, none⟩ = some (.slice FA l FC) := HR9.out.cell 1
      have z9 := HR9.out.lt
      have p0 : wr.drew.cell? ⟨w.heap.size, 0, none⟩ = some (.map none) := HR4.out.cell 0
      have p1 : wr.drew.frozen? ⟨w.heap.size, 0, none⟩ = false := HR4.out.frozen 0
      have p3 : wr.drew.cell? ⟨w.heap.size + 1, 0, none⟩ = some (.slice none 0 0) := HR5.out.cell 0
      have p4 : wr.drew.cell? ⟨w.heap.size + 1, 1, none⟩ = some (.slice none 0 0) := HR5.out.cell 1
      have p5 : wr.drew.frozen? ⟨w.heap.size + 1, 0, none⟩ = false := HR5.out.frozen 0
      have p6 : wr.drew.frozen? ⟨w.heap.size + 1, 1, none⟩ = false := HR5.out.frozen 1
      have p7 := HR4.out.lt
      have p8 := HR5.out.lt
      have hr5a : Row (wr.setCell ⟨w.heap.size, 0, none⟩ (.map (some md))).drew (w.heap.size + 1) 31 [.slice none 0 0, .slice none 0 0] := (HR5.out.far (p := ⟨w.heap.size, 0, none⟩) (by show w.heap.size + 1 ≠ w.heap.size; omega) _).drew
      have r3 : (wr.setCell ⟨w.heap.size, 0, none⟩ (.map (some md))).drew.cell? ⟨w.heap.size + 1, 0, none⟩ = some (.slice none 0 0) := hr5a.cell 0
      have r4 : (wr.setCell ⟨w.heap.size, 0, none⟩ (.map (some md))).drew.cell? ⟨w.heap.size + 1, 1, none⟩ = some (.slice none 0 0) := hr5a.cell 1
      have r5 : (wr.setCell ⟨w.heap.size, 0, none⟩ (.map (some md))).drew.frozen? ⟨w.heap.size + 1, 0, none⟩ = false := hr5a.frozen 0
      have r6 : (wr.setCell ⟨w.heap.size, 0, none⟩ (.map (some md))).drew.frozen? ⟨w.heap.size + 1, 1, none⟩ = false := hr5a.frozen 1
      have r7 := hr5a.lt
      have hr5b : Row ((wr.setCell ⟨w.heap.size, 0, none⟩ (.map (some md))).setCell ⟨w.heap.size + 1, 0, none⟩ (.slice SA S.length SC)).drew (w.heap.size + 1) 31 [.slice SA S.length SC, .slice none 0 0] := ((HR5.out.far (p := ⟨w.heap.size, 0, none⟩) (by show w.heap.size + 1 ≠ w.heap.size; omega) _).set 0 _).drew
      have r8 : ((wr.setCell ⟨w.heap.size, 0, none⟩ (.map (some md))).setCell ⟨w.heap.size + 1, 0, none⟩ (.slice SA S.length SC)).drew.cell? ⟨w.heap.size + 1, 1, none⟩ = some (.slice none 0 0) := hr5b.cell 1
      have r9 : ((wr.setCell ⟨w.heap.size, 0, none⟩ (.map (some md))).setCell ⟨w.heap.size + 1, 0, none⟩ (.slice SA S.length SC)).drew.frozen? ⟨w.heap.size + 1, 1, none⟩ = false := hr5b.frozen 1
      have r10 := hr5b.lt
      have hne7 : g7 ≠ w.heap.size := by have := HGZ.out; omega
      have hne9 : g9 ≠ w.heap.size := by have := HGZ.out; omega
      have HK7 := Lib.hid (HR7.out.far (p := ⟨w.heap.size, 0, none⟩) hne7 (.map (some md))).drew
      have HK9 := Lib.hid (HR9.out.far (p := ⟨w.heap.size, 0, none⟩) hne9 (.map (some md))).drew
      have KEEP : Hid ((wr.setCell ⟨w.heap.size, 0, none⟩ (.map (some md))).drew.cell? ⟨g7, 0, none⟩ = some (.map (some md)) ∧ (wr.setCell ⟨w.heap.size, 0, none⟩ (.map (some md))).drew.cell? ⟨g9, 0, none⟩ = some (.slice SA S.length SC) ∧ (wr.setCell ⟨w.heap.size, 0, none⟩ (.map (some md))).drew.cell? ⟨g9, 1, none⟩ = some (.slice FA l FC)) := ⟨HK7.out.cell 0, HK9.out.cell 0, HK9.out.cell 1⟩
      clear hne7 hne9
      refine regionS (S := (fun w' => w'.cell? ⟨g7, 0, none⟩ = some (.map (some md)) ∧ w'.cell? ⟨g9, 0, none⟩ = some (.slice SA S.length SC) ∧ w'.cell? ⟨g9, 1, none⟩ = some (.slice FA l FC))) [3, 4] (by kernel_rfl) ⟨c7, c90, c91⟩ (fun hHeld => ?_)
      refine takeS (i := 0) (v := ?_) (some 56) rfl rfl (by kernel_rfl) (by decide) (by kernel_rfl) (by kernel_rfl) (by kernel_rfl) (by kernel_rfl) (fun _ _ _ h => h) (Or.inl ⟨by rfl, ?_⟩) (by assumption) ?_
      rotate_left 1
      · (intro w0 hSw; (try dsimp only at hSw); go_simp; try (with_reducible rfl))
      try simp only [Act.put, List.setIfInBounds_toArray, List.set_cons_succ, List.set_cons_zero]
      refine takeS (i := 1) (v := ?_) (some 57) rfl rfl (by kernel_rfl) (by decide) (by kernel_rfl) (by kernel_rfl) (by kernel_rfl) (by kernel_rfl) (fun _ _ _ h => h) (Or.inl ⟨by rfl, ?_⟩) (by assumption) ?_
      rotate_left 1
      · (intro w0 hSw; (try dsimp only at hSw); go_simp; try (with_reducible rfl))
      try simp only [Act.put, List.setIfInBounds_toArray, List.set_cons_succ, List.set_cons_zero]
      refine oneS (i := 2) (by kernel_rfl) rfl (fun K hK => ?_)
      go_simp
      go_wp2_with fail
      refine hK.out _ _ KEEP.out (fun hHeld => ?_)
      clear hK K
      try simp only [Act.put, List.setIfInBounds_toArray, List.set_cons_succ, List.set_cons_zero]
      refine oneL (i := 3) (by kernel_rfl) rfl (by decide) (fun K hK => ?_)
      go_simp
      go_wp2_with fail
      refine hK.out _ _ ?_
      clear hK K
      try simp only [Act.put, List.setIfInBounds_toArray, List.set_cons_succ, List.set_cons_zero]
      refine oneL (i := 4) (by kernel_rfl) rfl (by decide) (fun K hK => ?_)
      go_simp
      go_wp2_with fail
      refine hK.out _ _ ?_
      clear hK K
      try simp only [Act.put, List.setIfInBounds_toArray, List.set_cons_succ, List.set_cons_zero]
      refine doneS (by kernel_rfl) ?_ _
      clear c7 c90 c91 p0 p1 p3 p4 p5 p6 p7 p8 r3 r4 r5 r6 r7 r8 r9 r10 hr5a hr5b z7 z9
      obtain ⟨W6, hW6⟩ : ∃ V, V = (((wr.setCell ⟨w.heap.size, 0, none⟩ (.map (some md))).setCell ⟨w.heap.size + 1, 0, none⟩ (.slice SA S.length SC)).setCell ⟨w.heap.size + 1, 1, none⟩ (.slice FA l FC)).drew := ⟨_, rfl⟩
      rw [← hW6]
      have HR46 : Hid (Row W6 w.heap.size 28 [.map (some md)]) := by show Row _ _ _ _; rw [hW6]; exact (((HR4.out.set 0 _).far (p := ⟨w.heap.size + 1, 0, none⟩) (by show w.heap.size ≠ w.heap.size + 1; omega) _).far (p := ⟨w.heap.size + 1, 1, none⟩) (by show w.heap.size ≠ w.heap.size + 1; omega) _).drew
      have HR56 : Hid (Row W6 (w.heap.size + 1) 31 [.slice SA S.length SC, .slice FA l FC]) := by show Row _ _ _ _; rw [hW6]; exact (((HR5.out.far (p := ⟨w.heap.size, 0, none⟩) (by show w.heap.size + 1 ≠ w.heap.size; omega) _).set 0 _).set 1 _).drew
      have HB6 : Hid (Below w.heap.size w W6) := by show Below _ _ _; rw [hW6]; exact (((HBR.out.setCell (p := ⟨w.heap.size, 0, none⟩) (Nat.le_refl _) _).setCell (p := ⟨w.heap.size + 1, 0, none⟩) (by show w.heap.size ≤ w.heap.size + 1; omega) _).setCell (p := ⟨w.heap.size + 1, 1, none⟩) (by show w.heap.size ≤ w.heap.size + 1; omega) _).drew
      have HW6 := Lib.hid hW6
      clear hW6
      have d0 : W6.cell? ⟨w.heap.size, 0, none⟩ = some (.map (some md)) := HR46.out.cell 0
      have d1 : W6.cell? ⟨w.heap.size + 1, 0, none⟩ = some (.slice SA S.length SC) := HR56.out.cell 0
      have d2 : W6.cell? ⟨w.heap.size + 1, 1, none⟩ = some (.slice FA l FC) := HR56.out.cell 1
      go_wp2_with fail
      have HD6 : Hid (DbM (fun _ => True) S W6 (.map (some md)) (madeF S us).1) := by
        show DbM _ _ _ _ _
        rw [HW6.out]
        exact DbM.weak ((((HDB.out.keep (Stay.set (fun h => by have := h.1; omega) 0 _)).keep (Stay.set (fun h => by have := h.1; omega) 0 _)).keep (Stay.set (fun h => by have := h.1; omega) 1 _)).up (Ext.refl _).drew.below) fun _ _ _ => trivial
      have HO6 : Hid (W6.ownsRow w.heap.size 85 2 (.slice FA l FC) l cs) := by
        show World.ownsRow _ _ _ _ _ _ _
        rw [HW6.out]
        exact own_keep (own_far (own_far (own_far HOWN.out (own_ne_rowF HOWN.out HR4.out (by decide)) _) (own_ne_rowF HOWN.out HR5.out (by decide)) _) (own_ne_rowF HOWN.out HR5.out (by decide)) _) (Ext.refl _).drew.below
      refine bodyPost_ret (v := .tuple #[.agg #[.map (some md)], .agg #[.slice SA S.length SC, .slice FA l FC], .bool true]) (by simp [results, Tryz.results12, go_sem, d0, d1, d2]) rfl ⟨fun h => absurd HE.out h, fun _ => ⟨md, FA, FC, cs, by rw [← HL.out], HD6.out, HCS.out, by rw [← HL.out]; exact HO6.out⟩, HB6.out⟩
end
section
open Go.RowKit Go.Sort Go.ChangeMaps Go.WideShapes

theorem strInfo8 : (Tryz.prog.info? 9).map (fun i => (i.zero, i.size, i.bytes)) = some (some (.string ⟨#[]⟩), 1, 16) := by kernel_rfl
theorem runXStrN {w : World} (ty : TypeId) (base : Nat) (v : Value) (n : Nat) (xs : List Value) (hown : w.ownsRow base 9 1 v n xs)
    (A : Option Addr) (m C : Nat) (news : List Value) (hl : news.length = m * 1) (hz : Sl w.heap.size w A news) (h1 : ∀ u ∈ news, u.oneCell' = true) (hn : n + m ≤ 1000000) (hbase : base ≤ w.heap.size) :
    ∃ v' w', (Builtin.append_ #[34, 34] ty #[v, .slice A m C]).run Tryz.prog w = .ok v' w' ∧ w'.ownsRow base 9 1 v' (n + m) (xs ++ news) ∧ w.grownBy w' v.ownBlock ∧ (∀ b, v'.ownBlock = some b → v.ownBlock = some b ∨ b = w.heap.size) := by
  obtain ⟨i0, hi0, hz0, hz1, hz2⟩ := info_parts strInfo8
  rcases A with _ | ad
  · have hy : m = 0 := by
      rcases Nat.eq_zero_or_pos m with h | h
      · exact h
      · obtain ⟨b, o, e', hb, hc⟩ := hz (fun h0 => by rw [h0] at hl; simp only [List.length_nil] at hl; omega)
        cases e'
    subst hy
    obtain rfl : news = [] := List.eq_nil_of_length_eq_zero (by rw [hl, Nat.zero_mul])
    exact ⟨v, w, run_append_none (P := Tryz.prog) w base 34 ty 9 i0 1 Tryz.underlying34 hi0 v n xs hown C, by simpa using hown, ⟨rfl, rfl, rfl, Nat.le_refl _, fun _ _ _ => rfl⟩, fun b hb => .inl hb⟩
  · have hcell : ∀ j u, news[j]? = some u → w.cell? (ad.add j) = some u := fun j u hu => by
      obtain ⟨b, o, e', hb, hc⟩ := hz (by intro h0; rw [h0] at hu; simp at hu)
      injection e' with e'
      subst e'
      rw [Addr.add_lit]
      exact hc j u hu
    obtain ⟨v', w', hrun, k2, k3, _, k5⟩ := run_append_own_at (P := Tryz.prog) w base 34 ty 9 i0 _ 1 16 Tryz.underlying34 hi0 hz0 hz1 hz2 rfl (by decide) v n xs hown ad m C news hl hcell h1 (by simp only [maxLen]; omega) (by omega) hbase
    exact ⟨v', w', hrun, k2, k3, fun b hb => by
      rcases k5 with k5 | k5
      · exact .inl (by rw [← k5]; exact hb)
      · rw [k5] at hb; injection hb with hb; exact .inr hb.symm⟩
theorem appXStrN {w : World} {ops : Array Oper} {rest : List Oper} {o : Oper} {a : Act} {Q : Exit → Act → World → Prop} (hgd : o.guard = none) (s x : Operand)
    (ho : o.op = .call { callee := .builtin .append, args := #[s, x], argTypes := #[34, 34] })
    (base : Nat) (v : Value) (n : Nat) (xs : List Value) (hs0 : a.eval s = v) (hown : w.ownsRow base 9 1 v n xs)
    (A : Option Addr) (m C : Nat) (news : List Value) (hx : a.eval x = .slice A m C) (hl : news.length = m * 1) (hz : Sl w.heap.size w A news) (h1 : ∀ u ∈ news, u.oneCell' = true)
    (hn : n + m ≤ 1000000) (hbase : base ≤ w.heap.size)
    (h : ∀ v' w', w'.ownsRow base 9 1 v' (n + m) (xs ++ news) → w.grownBy w' v.ownBlock → (∀ b, v'.ownBlock = some b → v.ownBlock = some b ∨ b = w.heap.size) → wpList Tryz.prog ops Q rest (a.put o.dst v') w') : wpList Tryz.prog ops Q (o :: rest) a w := by
  refine wpList_plain hgd fun K hK => ?_
  obtain ⟨v', w', hrun, k2, k3, k4⟩ := runXStrN o.type base v n xs hown A m C news hl hz h1 hn hbase
  unfold Oper.wp execOp
  simp only [ho, resolve, invoke, builtin, Sem.run_bind, Sem.run_pure, Result.andThen_ok, List.map_toArray, List.map_cons, List.map_nil, hs0, hx, hrun]
  exact hK _ _ (h v' w' k2 k3 k4)
theorem runXRowN {w : World} (ty : TypeId) (base : Nat) (v : Value) (n : Nat) (xs : List Value) (hown : w.ownsRow base 42 1 v n xs)
    (A : Option Addr) (m C : Nat) (news : List Value) (hl : news.length = m * 1) (hz : Sl w.heap.size w A news) (h1 : ∀ u ∈ news, u.oneCell' = true) (hn : n + m ≤ 1000000) (hbase : base ≤ w.heap.size) :
    ∃ v' w', (Builtin.append_ #[38, 38] ty #[v, .slice A m C]).run Tryz.prog w = .ok v' w' ∧ w'.ownsRow base 42 1 v' (n + m) (xs ++ news) ∧ w.grownBy w' v.ownBlock ∧ (∀ b, v'.ownBlock = some b → v.ownBlock = some b ∨ b = w.heap.size) := by
  obtain ⟨i0, hi0, hz0, hz1, hz2⟩ := info_parts rowInfo
  rcases A with _ | ad
  · have hy : m = 0 := by
      rcases Nat.eq_zero_or_pos m with h | h
      · exact h
      · obtain ⟨b, o, e', hb, hc⟩ := hz (fun h0 => by rw [h0] at hl; simp only [List.length_nil] at hl; omega)
        cases e'
    subst hy
    obtain rfl : news = [] := List.eq_nil_of_length_eq_zero (by rw [hl, Nat.zero_mul])
    exact ⟨v, w, run_append_none (P := Tryz.prog) w base 38 ty 42 i0 1 Tryz.underlying38 hi0 v n xs hown C, by simpa using hown, ⟨rfl, rfl, rfl, Nat.le_refl _, fun _ _ _ => rfl⟩, fun b hb => .inl hb⟩
  · have hcell : ∀ j u, news[j]? = some u → w.cell? (ad.add j) = some u := fun j u hu => by
      obtain ⟨b, o, e', hb, hc⟩ := hz (by intro h0; rw [h0] at hu; simp at hu)
      injection e' with e'
      subst e'
      rw [Addr.add_lit]
      exact hc j u hu
    obtain ⟨v', w', hrun, k2, k3, _, k5⟩ := run_append_own_at (P := Tryz.prog) w base 38 ty 42 i0 _ 1 24 Tryz.underlying38 hi0 hz0 hz1 hz2 rfl (by decide) v n xs hown ad m C news hl hcell h1 (by simp only [maxLen]; omega) (by omega) hbase
    exact ⟨v', w', hrun, k2, k3, fun b hb => by
      rcases k5 with k5 | k5
      · exact .inl (by rw [← k5]; exact hb)
      · rw [k5] at hb; injection hb with hb; exact .inr hb.symm⟩
theorem appXRowN {w : World} {ops : Array Oper} {rest : List Oper} {o : Oper} {a : Act} {Q : Exit → Act → World → Prop} (hgd : o.guard = none) (s x : Operand)
    (ho : o.op = .call { callee := .builtin .append, args := #[s, x], argTypes := #[38, 38] })
    (base : Nat) (v : Value) (n : Nat) (xs : List Value) (hs0 : a.eval s = v) (hown : w.ownsRow base 42 1 v n xs)
    (A : Option Addr) (m C : Nat) (news : List Value) (hx : a.eval x = .slice A m C) (hl : news.length = m * 1) (hz : Sl w.heap.size w A news) (h1 : ∀ u ∈ news, u.oneCell' = true)
    (hn : n + m ≤ 1000000) (hbase : base ≤ w.heap.size)
    (h : ∀ v' w', w'.ownsRow base 42 1 v' (n + m) (xs ++ news) → w.grownBy w' v.ownBlock → (∀ b, v'.ownBlock = some b → v.ownBlock = some b ∨ b = w.heap.size) → wpList Tryz.prog ops Q rest (a.put o.dst v') w') : wpList Tryz.prog ops Q (o :: rest) a w := by
  refine wpList_plain hgd fun K hK => ?_
  obtain ⟨v', w', hrun, k2, k3, k4⟩ := runXRowN o.type base v n xs hown A m C news hl hz h1 hn hbase
  unfold Oper.wp execOp
  simp only [ho, resolve, invoke, builtin, Sem.run_bind, Sem.run_pure, Result.andThen_ok, List.map_toArray, List.map_cons, List.map_nil, hs0, hx, hrun]
  exact hK _ _ (h v' w' k2 k3 k4)
theorem elemStrs : Tryz.prog.elem 34 = 9 := by kernel_rfl
theorem underStrs : Tryz.prog.underlying 34 = some (.slice (Tryz.prog.elem 34)) := by kernel_rfl
theorem slTailS (A : Option Addr) (len cap k : Nat) (h : k ≤ len) (W : World) : (Instr.slice 34 (.slice A len cap) (some (.int .i64 (k : Int))) none none).run Tryz.prog W = .ok (.slice (tailA A k cap) (len - k) (cap - k)) W := by
  rw [run_slice_l W 34 A len cap underStrs .i64 k (by omega) (by omega), elemStrs, Tryz.sizeOf9]
  simp [tailA, sliced, Result.andThen]
theorem slHeadS (A : Option Addr) (len cap k : Nat) (h : k ≤ cap) (W : World) : (Instr.slice 34 (.slice A len cap) none (some (.int .i64 (k : Int))) none).run Tryz.prog W = .ok (.slice A k cap) W := by
  rw [run_slice_h W 34 A len cap underStrs .i64 k (by omega) (by omega), elemStrs, Tryz.sizeOf9]
  cases A <;> simp [sliced, Addr.add, Result.andThen]
theorem Sl.takeN {B : Nat} {w : World} {A : Option Addr} {xs : List Value} (h : Sl B w A xs) (k : Nat) : Sl B w A (xs.take k) := fun hn => by
  obtain ⟨b, o, e, hb, hc⟩ := h (by intro h0; rw [h0] at hn; simp at hn)
  exact ⟨b, o, e, hb, fun i u hu => by
    have hi : i < k := by
      rcases Nat.lt_or_ge i k with h1 | h1
      · exact h1
      · rw [List.getElem?_eq_none (by rw [List.length_take]; omega)] at hu; cases hu
    rw [List.getElem?_take_of_lt hi] at hu
    exact hc i u hu⟩
theorem Sl.tailN {B : Nat} {w : World} {A : Option Addr} {xs : List Value} {cap : Nat} (h : Sl B w A xs) (hc : xs.length ≤ cap) (k : Nat) : Sl B w (tailA A k cap) (xs.drop k) := fun hn => by
  have hk : k < xs.length := by
    rcases Nat.lt_or_ge k xs.length with h1 | h1
    · exact h1
    · rw [List.drop_eq_nil_iff.2 h1] at hn; exact absurd rfl hn
  obtain ⟨b, o, rfl, hb, hcl⟩ := h (by intro h0; rw [h0] at hk; simp at hk)
  refine ⟨b, o + k, ?_, hb, fun i u hu => ?_⟩
  · unfold tailA
    rw [if_neg (by omega)]
    simp [Addr.add_lit]
  · rw [List.getElem?_drop] at hu
    rw [Nat.add_assoc]
    exact hcl _ _ hu

def contN (ns : List ByteArray) (nm : ByteArray) (j : Nat) : Bool := match ns[j]? with
  | some a => decide (RL.cmpS a nm < 0)
  | none => false
theorem contN_end {ns : List ByteArray} {nm : ByteArray} {j : Nat} (h : ¬ j < ns.length) : contN ns nm j = false := by
  unfold contN; rw [List.getElem?_eq_none (by omega)]
theorem contN_at {ns : List ByteArray} {nm : ByteArray} {j : Nat} (h : j < ns.length) : contN ns nm j = decide (RL.cmpS ns[j] nm < 0) := by
  unfold contN; rw [List.getElem?_eq_getElem h]
theorem NamesOf.ins {S0 : Sch} {p : ByteArray × List Int} {l : List ByteArray} (h : NamesOf S0 l) (hn : p.1 ∉ S0.map Prod.fst) {j : Nat}
    (hlt : ∀ t (ht : t < l.length), t < j → RL.cmpS l[t] p.1 < 0) (hge : contN l p.1 j = false) : NamesOf (S0 ++ [p]) (l.take j ++ [p.1] ++ l.drop j) := by
  obtain ⟨h1, h2⟩ := h
  refine ⟨?_, ?_⟩
  · rw [List.map_append]
    have e1 : (l.take j ++ [p.1] ++ l.drop j).Perm (l.take j ++ l.drop j ++ [p.1]) := by
      rw [List.append_assoc, List.append_assoc]
      exact List.Perm.append_left _ List.perm_append_comm
    rw [List.take_append_drop] at e1
    exact e1.trans (List.Perm.append_right _ h1)
  · have hbig : ∀ t (ht : t < l.length), j ≤ t → RL.cmpS p.1 l[t] < 0 := fun t ht hjt => by
      have hj : j < l.length := by omega
      rw [contN_at hj] at hge
      have hge := of_decide_eq_false hge
      have hne : RL.cmpS l[j] p.1 ≠ 0 := fun e => hn (by
        rw [← (RL.tot_cmpS.z _ _).1 e]
        exact h1.mem_iff.1 (List.getElem_mem hj))
      have hlt2 : RL.cmpS p.1 l[j] < 0 := by have := RL.tot_cmpS.sw l[j] p.1; omega
      rcases Nat.lt_or_ge j t with h3 | h3
      · exact RL.tot_cmpS.tr _ _ _ hlt2 (List.pairwise_iff_getElem.1 h2 j t hj ht h3)
      · obtain rfl : t = j := by omega
        exact hlt2
    have hsm : ∀ a ∈ l.take j, RL.cmpS a p.1 < 0 := fun a ha => by
      obtain ⟨t, ht, rfl⟩ := List.getElem_of_mem ha
      rw [List.length_take] at ht
      rw [List.getElem_take]
      exact hlt t (by omega) (by omega)
    have hbg : ∀ b ∈ l.drop j, RL.cmpS p.1 b < 0 := fun b hb => by
      obtain ⟨t, ht, rfl⟩ := List.getElem_of_mem hb
      rw [List.length_drop] at ht
      rw [List.getElem_drop]
      exact hbig (j + t) (by omega) (by omega)
    rw [List.append_assoc, List.pairwise_append]
    refine ⟨h2.sublist (List.take_sublist _ _), ?_, fun a ha b hb => ?_⟩
    · rw [List.singleton_append, List.pairwise_cons]
      exact ⟨hbg, h2.sublist (List.drop_sublist _ _)⟩
    · rw [List.singleton_append] at hb
      rcases List.mem_cons.1 hb with rfl | hb
      · exact hsm a ha
      · exact RL.tot_cmpS.tr _ _ _ (hsm a ha) (hbg b hb)

set_option maxHeartbeats 8000000 in
theorem r08Names_any (SA : Option Addr) (SC : Nat) (S : Sch) (fv : Value) (w : World) (hS : SchsM w.heap.size w SA S) (hSl : S.length ≤ 1000) (hnd : (S.map Prod.fst).Nodup) :
    Calls Tryz.prog 13 #[.agg #[.slice SA S.length SC, fv]] w fun e w' => ∃ A C, ∃ ns : List ByteArray, e = .returned (.slice A ns.length C) ∧ NamesOf S ns ∧ Sl w'.heap.size w' A (ns.map Value.string) ∧ Below w.heap.size w w' := by
  obtain ⟨W0, hW0⟩ : ∃ W, W = w.alloc (.cells #[.slice SA S.length SC, fv] 31) := ⟨_, rfl⟩
  have hx0 : Ext w W0 := by rw [hW0]; exact (Ext.refl w).alloc _
  have HR0 : Hid (Row W0 w.heap.size 31 [.slice SA S.length SC, fv]) := by show Row _ _ _ _; rw [hW0]; exact Row.new w _ _
  have HB0 := Lib.hid hx0.below
  have HZ0 : Hid (W0.heap.size = w.heap.size + 1) := by show _ = _; rw [hW0]; simp
  have HS := Lib.hid hS
  have HND : Hid (S.map Prod.fst).Nodup := hnd
  obtain ⟨g, hg⟩ : ∃ g, g = w.heap.size := ⟨_, rfl⟩
  have HG : Hid (g = w.heap.size) := hg
  rw [← hg] at HR0
  clear hS hx0 hnd
  go_enter Tryz.func13, Tryz.ntmps13
  go_upto_region 1 with (fail)
  rw [← hW0, ← hg]
  clear hW0 hg
  go_wp2_with fail
  go_loopw [3, 4] (fun v i wx => ∃ (k : Nat) (ns : List ByteArray), k ≤ S.length ∧ i = .int .i64 k ∧ wx.ownsRow (g + 1) 9 1 v ns.length (ns.map Value.string) ∧ NamesOf (S.take k) ns ∧ Below (g + 1) W0 wx) (fun _ i _ => S.length - (intOf i).toNat)
  case atStart => exact ⟨0, [], Nat.zero_le _, rfl, own_nil _ _ _ _, ⟨List.Perm.refl _, List.Pairwise.nil⟩, Below.refl _ _⟩
  case round =>
    obtain ⟨k, ns, hk, rfl, hown, hns, hbr⟩ := hrel
    obtain ⟨wo, hwo⟩ : ∃ wo, wo = wr := ⟨_, rfl⟩
    subst hwo
    obtain ⟨VA, VC, rfl, hvc, hsl⟩ := Sl.of_own_n hown
    have HO := Lib.hid hown
    have HNS := Lib.hid hns
    have HBR := Lib.hid hbr
    have HSL := Lib.hid hsl
    have HR := Lib.hid (HR0.out.below hbr (Nat.lt_succ_self _))
    have hnl : ns.length ≤ 1000 := by have h1 := hns.1.length_eq; rw [List.length_map, List.length_take] at h1; omega
    have c0 : wo.cell? ⟨g, 0, none⟩ = some (.slice SA S.length SC) := HR.out.cell 0
    have z0 := HR.out.lt
    clear hown hns hbr hsl
    by_cases hkl : k < S.length
    · obtain ⟨ab, ao, rfl, hab, hac⟩ := HS.out (by intro h0; rw [h0] at hkl; simp at hkl)
      obtain ⟨KA, KC, d0, -, -⟩ := hac k hkl
      have HBW : Hid (Below w.heap.size w wo) := HB0.out.trans (HBR.out.mono (by have := HG.out; omega))
      have HD0 := Lib.hid d0
      have HDK : Hid (∀ V, Below (g + 1) W0 V → V.cell? ⟨g, 0, none⟩ = some (.slice (some ⟨ab, ao, none⟩) S.length SC) ∧ V.cell? ⟨ab, ao + k * 2, none⟩ = some (.string S[k].1) ∧ g < V.heap.size ∧ ab < V.heap.size) := fun V hb => by
        have hbw : Below w.heap.size w V := HB0.out.trans (hb.mono (by have := HG.out; omega))
        have hr := HR0.out.below hb (Nat.lt_succ_self _)
        exact ⟨hr.cell 0, cell_below hbw HD0.out, hr.lt, Nat.lt_of_lt_of_le hab hbw.size⟩
      have d0 := cell_below HBW.out d0
      have hab2 : ab < wo.heap.size := Nat.lt_of_lt_of_le hab HBW.out.size
      clear HD0
      have HNX : Hid (∀ j, (∀ t (ht : t < ns.length), t < j → RL.cmpS ns[t] S[k].1 < 0) → contN ns S[k].1 j = false → NamesOf (S.take (k + 1)) (ns.take j ++ [S[k].1] ++ ns.drop j)) := fun j h1 h2 => by
        rw [List.take_succ_eq_append_getElem hkl]
        refine HNS.out.ins ?_ h1 h2
        have h3 := HND.out
        rw [← List.take_append_drop (k + 1) S, List.take_succ_eq_append_getElem hkl, List.append_assoc, List.map_append, List.nodup_append] at h3
        intro hm
        exact h3.2.2 _ hm _ (List.mem_map.2 ⟨S[k], List.mem_append_left _ (List.mem_singleton.2 rfl), rfl⟩) rfl
      clear hac
      generalize S[k].1 = nm at d0 HNX HDK
      have g1 : (0 : Int) ≤ (k : Int) := by omega
      have g2 : (k : Int) < (S.length : Int) := by omega
      go_wp2_with fail
      go_loopw [5] (fun c wx => ∃ j : Nat, j ≤ ns.length ∧ c = .int .i64 j ∧ (∀ t (ht : t < ns.length), t < j → RL.cmpS ns[t] nm < 0) ∧ Ext wo wx) (fun c _ => ns.length - (intOf c).toNat)
      case atStart => exact ⟨0, Nat.zero_le _, rfl, fun t _ ht => absurd ht (Nat.not_lt_zero _), Ext.refl _⟩
      case round =>
        obtain ⟨j, hj, rfl, hall, hx⟩ := hrel
        have HALL := Lib.hid hall
        have HX := Lib.hid hx
        have hzz := hx.size
        have c0 := (hx.cell z0).trans c0
        have d0 := (hx.cell hab2).trans d0
        clear hall hx
        go_upto_region 6 with (fail)
        go_cut [30] from 14 to 30 (fun q wx => q = .bool (contN ns nm j) ∧ Ext wr wx)
        case first =>
          by_cases hjl : j < ns.length
          · obtain ⟨vb, vo, rfl, hvb, e0⟩ := HSL.out.at_ (k := j) (by rw [List.length_map]; exact hjl)
            rw [List.getElem_map] at e0
            have e0 := (HX.out.cell hvb).trans e0
            have hq := contN_at (nm := nm) hjl
            rw [← bytesLess_cmp] at hq
            have HQ := Lib.hid hq
            have p0 : (0 : Int) ≤ (j : Int) := by omega
            have p1 : (j : Int) < (ns.length : Int) := by omega
            have p2 : vb < wr.heap.size := by omega
            have p3 : ab < wr.heap.size := by omega
            have p4 : g < wr.heap.size := by omega
            clear hq
            generalize ns[j] = a at e0 HQ
            go_quiet (fail)
            go_wp2_with fail
            go_meet
            case rel => exact ⟨by rw [HQ.out], (Ext.refl _).drewN _⟩
          · have HQ := Lib.hid (contN_end (nm := nm) hjl)
            have p1 : ¬ (j : Int) < (ns.length : Int) := by omega
            have p5 : decide ((j : Int) < (ns.length : Int)) = false := decide_eq_false p1
            go_quiet (fail)
            go_wp2_with fail
            go_meet
            case rel => exact ⟨by rw [HQ.out], (Ext.refl _).drewN _⟩
        case rest =>
        obtain ⟨rfl, hx1⟩ := hcut
        generalize wc = w1 at *
        have HX1 := Lib.hid (HX.out.trans hx1)
        cases hcn : contN ns nm j with
        | true =>
          have hjl : j < ns.length := by
            rcases Nat.lt_or_ge j ns.length with h | h
            · exact h
            · rw [contN_end (by omega)] at hcn; cases hcn
          have HAJ : Hid (RL.cmpS ns[j] nm < 0) := by
            rw [contN_at hjl] at hcn
            exact Lib.hid (of_decide_eq_true hcn)
          have hw1 : IntKind.i64.wrap ((j : Int) + 1) = ((j + 1 : Nat) : Int) := by rw [IntWalk.i64_in _ (by omega)]; omega
          clear hcn
          go_wp2_with fail
          go_roundw
          case rel => exact ⟨j + 1, hjl, by go_num, fun t ht htj => by
            rcases Nat.lt_or_ge t j with h | h
            · exact HALL.out t ht h
            · obtain rfl : t = j := by omega
              exact HAJ.out, HX1.out⟩
          case measure => simp [intOf]; omega
        | false =>
          have HNN := Lib.hid (HNX.out j HALL.out hcn)
          have c0 := (hx1.cell (by omega)).trans c0
          have d0 := (hx1.cell (by omega)).trans d0
          have hz1 := hx1.size
          have hsh := slHeadS VA ns.length VC j (by omega)
          have hst := slTailS VA ns.length VC j hj
          obtain ⟨TA, hTA⟩ : ∃ TA, TA = tailA VA j VC := ⟨_, rfl⟩
          rw [← hTA] at hst
          have hsl1 := Sl.more (Sl.ext HSL.out (Nat.le_refl _) HX1.out) HX1.out.size
          have HHD : Hid (Sl w1.heap.size w1 VA ((ns.take j).map Value.string)) := by show Sl _ _ _ _; rw [List.map_take]; exact hsl1.takeN j
          have HTL : Hid (Sl w1.heap.size w1 TA ((ns.drop j).map Value.string)) := by show Sl _ _ _ _; rw [List.map_drop, hTA]; exact hsl1.tailN (by rw [List.length_map]; exact hvc) j
          have HB1 := Lib.hid (HBR.out.trans (HX1.out.below.mono (by omega)))
          have HL1 : Hid (((ns.take j).map Value.string).length = j * 1) := by show _ = _; rw [List.length_map, List.length_take]; omega
          have HL2 : Hid (((ns.drop j).map Value.string).length = (ns.length - j) * 1) := by show _ = _; rw [List.length_map, List.length_drop]; omega
          obtain ⟨h1s, hh1s⟩ : ∃ h, h = (ns.take j).map Value.string := ⟨_, rfl⟩
          obtain ⟨h2s, hh2s⟩ : ∃ h, h = (ns.drop j).map Value.string := ⟨_, rfl⟩
          have HC1 : Hid (∀ u ∈ h1s, u.oneCell' = true) := fun u hu => by rw [hh1s] at hu; obtain ⟨a, -, rfl⟩ := List.mem_map.1 hu; rfl
          have HC2 : Hid (∀ u ∈ h2s, u.oneCell' = true) := fun u hu => by rw [hh2s] at hu; obtain ⟨a, -, rfl⟩ := List.mem_map.1 hu; rfl
          have HH1 := Lib.hid hh1s
          have HH2 := Lib.hid hh2s
          rw [← hh1s] at HHD HL1
          rw [← hh2s] at HTL HL2
          have hgz : g + 1 ≤ w1.heap.size := by omega
          clear hTA hsl1 hcn hx1 hh1s hh2s HNX HALL HSL HX HX1
          have hw1 : IntKind.i64.wrap ((k : Int) + 1) = ((k + 1 : Nat) : Int) := by rw [IntWalk.i64_in _ (by omega)]; omega
          have HE0 := Lib.hid (own_emptyF w1 (g + 1) 9 1 hgz)
          have HX2 : Hid (Ext w1 (w1.alloc (.cells #[] 9))) := (Ext.refl w1).alloc _
          have HB2 : Hid (Below (g + 1) W0 (w1.alloc (.cells #[] 9))) := HB1.out.trans (HX2.out.below.mono hgz)
          have HS2 := Lib.hid (Sl.more (Sl.ext HHD.out (Nat.le_refl _) HX2.out) HX2.out.size)
          have HTK : Hid (∀ V, Below w1.heap.size w1 V → Sl V.heap.size V TA h2s) := fun V hb => Sl.more (Sl.below HTL.out hb (Nat.le_refl _)) hb.size
          clear c0 d0 hab2 z0
          go_wp2_with (first
            | (at_builtin; refine appXStrN rfl (.tmp 33) (.tmp 36) rfl (g + 1) (.slice (some ⟨w1.heap.size, 0, none⟩) 0 0) 0 [] rfl HE0.out VA j VC h1s rfl HL1.out HS2.out HC1.out (by omega) (by simp; omega) ?_
               intro v2 w2 hown2 hg2 hat2
               have hb2 := HB2.out.grown hg2 (by simp; omega) (fun q hq => own_base HE0.out hq)
               have hbn : Below w1.heap.size w1 w2 := HX2.out.below.grown hg2 (by simp) (fun q hq => by simp [Value.ownBlock] at hq; omega)
               have HBN := Lib.hid hbn
               obtain ⟨c0, d0, z0, hab2⟩ := HDK.out w2 hb2
               have hgz2 : g + 1 ≤ w2.heap.size := z0
               have HO2 := Lib.hid (hown2.alloc (.cells #[.string nm] 9))
               have HB2' := Lib.hid (hb2.alloc hgz2 (.cells #[.string nm] 9))
               have HV2 : Hid (∀ q, v2.ownBlock = some q → w1.heap.size ≤ q) := fun q hq => by
                 rcases hat2 q hq with h | h
                 · simp [Value.ownBlock] at h; omega
                 · rw [h]; simp
               have HS3 : Hid (Sl (w2.alloc (.cells #[.string nm] 9)).heap.size (w2.alloc (.cells #[.string nm] 9)) (some ⟨w2.heap.size, 0, none⟩) [.string nm]) := (Row.new w2 9 [.string nm]).sl
               have HBN2 : Hid (Below w1.heap.size w1 (w2.alloc (.cells #[.string nm] 9))) := hbn.alloc hbn.size _
               clear hown2 hg2 hat2 hb2 hbn)
            | (at_builtin; refine appXStrN rfl (.tmp 38) (.tmp 45) rfl (g + 1) v2 (0 + j) ([] ++ h1s) rfl HO2.out (some ⟨w2.heap.size, 0, none⟩) 1 1 [.string nm] rfl rfl HS3.out (fun u hu => by rw [List.mem_singleton.1 hu]; rfl) (by omega) (by simp; omega) ?_
               intro v3 w3 hown3 hg3 hat3
               have HO3 := Lib.hid hown3
               have hb3 := HB2'.out.grown hg3 (by simp; omega) (fun q hq => own_base HO2.out hq)
               have hbn3 := HBN2.out.grown hg3 (by have := HBN.out.size; simp; omega) HV2.out
               have HB3 := Lib.hid hb3
               have HBN3 := Lib.hid hbn3
               have HV3 : Hid (∀ q, v3.ownBlock = some q → w1.heap.size ≤ q) := fun q hq => by
                 rcases hat3 q hq with h | h
                 · exact HV2.out q h
                 · rw [h]; have := HBN.out.size; simp; omega
               have hgz3 : g + 1 ≤ w3.heap.size := (HDK.out w3 hb3).2.2.1
               clear hown3 hg3 hb3 hbn3 hat3)
            | (at_builtin; refine appXStrN rfl (.tmp 47) (.tmp 50) rfl (g + 1) v3 (0 + j + 1) ([] ++ h1s ++ [.string nm]) rfl HO3.out TA (ns.length - j) (VC - j) h2s rfl HL2.out (HTK.out w3 HBN3.out) HC2.out (by omega) hgz3 ?_
               intro v4 w4 hown4 hg4 hat4
               have HO4 := Lib.hid hown4
               have HB4 := Lib.hid (HB3.out.grown hg4 hgz3 (fun q hq => own_base HO3.out hq))
               clear hown4 hg4 hat4)
            | fail)
          have HO5 : Hid (w4.ownsRow (g + 1) 9 1 v4 (ns.take j ++ [nm] ++ ns.drop j).length ((ns.take j ++ [nm] ++ ns.drop j).map Value.string)) := by
            have h := HO4.out
            rw [HH1.out, HH2.out, List.nil_append, show 0 + j + 1 + (ns.length - j) = (ns.take j ++ [nm] ++ ns.drop j).length by simp; omega] at h
            show World.ownsRow _ _ _ _ _ _ _
            rw [List.map_append, List.map_append]
            exact h
          go_roundw
          case rel => exact ⟨k + 1, _, hkl, by go_num, HO5.out, HNN.out, HB4.out⟩
          case measure => simp [intOf]; omega
    · obtain rfl : k = S.length := by omega
      rw [List.take_length] at HNS
      have g2 : ¬ (S.length : Int) < (S.length : Int) := by omega
      go_wp2_with fail
      go_ret
      exact ⟨VA, VC, ns, rfl, HNS.out, HSL.out, HB0.out.trans (HBR.out.mono (by have := HG.out; omega))⟩
end
end Go.Proofs.YtdadchpiibipoaaGreatDoor

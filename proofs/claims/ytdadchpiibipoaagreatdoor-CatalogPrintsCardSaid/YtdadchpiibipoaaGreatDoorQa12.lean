/- Parts of the proof, merged: C46, C49, C53, C55, C56, CP6, CP7. -/
import Derived.Test.YtdadchpiibipoaaGreatDoorQa11
import Derived.Test.YtdadchpiibipoaaGreatDoorQa6
import Derived.Test.YtdadchpiibipoaaGreatDoorQa7
import Derived.Test.YtdadchpiibipoaaGreatDoorQa9

set_option maxRecDepth 100000
namespace Go.Proofs.YtdadchpiibipoaaGreatDoor
section
open Go.RowKit Go.Sort Go.ChangeMaps Go.WideShapes

def MadePost (SA : Option Addr) (SC : Nat) (S : Sch) (us : List Upd) (w : World) (e : Ending) (w' : World) : Prop :=
  (errS S ≠ 0 → e = .returned (.tuple #[.agg #[.map none], .agg #[.slice SA S.length SC, .slice none 0 0], .bool false])) ∧
  (errS S = 0 → ∃ (md : Nat) (A : Option Addr) (C : Nat) (cs : List Value), e = .returned (.tuple #[.agg #[.map (some md)], .agg #[.slice SA S.length SC, .slice A (madeF S us).2.length C], .bool true]) ∧
    DbM (fun _ => True) S w' (.map (some md)) (madeF S us).1 ∧ FctCs w.heap.size w (madeF S us).2 cs ∧ w'.ownsRow w.heap.size 85 2 (.slice A (madeF S us).2.length C) (madeF S us).2.length cs) ∧ Below w.heap.size w w'

theorem FctCs.back {B : Nat} {w V : World} {Fs : List Fact} {cs : List Value} (h : FctCs B V Fs cs) (hb : Below B w V) : FctCs B w Fs cs :=
  ⟨h.len, h.one, fun i hi => by
    obtain ⟨RA, RC, a, b, c⟩ := h.at_ i hi
    exact ⟨RA, RC, a, b, Sl.keep c fun p hp => (hb.cell hp).symm⟩⟩
set_option maxHeartbeats 16000000 in
theorem l08made_any (SA : Option Addr) (SC : Nat) (S : Sch) (UA : Option Addr) (UC : Nat) (us : List Upd) (w : World) (hS : SchsM w.heap.size w SA S) (hSo : SchsOk S) (hSl : S.length ≤ 1000)
    (hU : UpdsM w.heap.size w UA us) (hUo : ∀ u ∈ us, UpdOk u) (hUl : us.length ≤ 1000) (hUc : us.length ≤ UC) :
    Calls Tryz.prog 12 #[.slice SA S.length SC, .slice UA us.length UC] w (MadePost SA SC S us w) := by
  obtain ⟨W0, hW0⟩ : ∃ W, W = (w.alloc (.cells #[.map none] 28)).alloc (.cells #[.slice none 0 0, .slice none 0 0] 31) := ⟨_, rfl⟩
  have hx0 : Ext w W0 := by rw [hW0]; exact ((Ext.refl w).alloc _).alloc _
  have hr4 : Row W0 w.heap.size 28 [.map none] := by rw [hW0]; exact (Row.new w 28 _).alloc _
  have hr5 : Row W0 (w.heap.size + 1) 31 [.slice none 0 0, .slice none 0 0] := by
    have h := Row.new (w.alloc (.cells #[.map none] 28)) 31 [.slice none 0 0, .slice none 0 0]
    rw [World.size_alloc] at h
    rw [hW0]; exact h
  have HZ0 : Hid (W0.heap.size = w.heap.size + 2) := by show _ = _; rw [hW0]; simp
  have HB0 := Lib.hid hx0.below
  have HR4 := Lib.hid hr4
  have HR5 := Lib.hid hr5
  have HS := Lib.hid hS
  have HSO := Lib.hid hSo
  have HU := Lib.hid hU
  have HUO := Lib.hid hUo
  have HN := Lib.hid (ctNew_any (fun b => w.heap.size + 2 ≤ b) SA SC S W0 (fun b hb => by have := HZ0.out; omega) (hS.up hx0.below) hSo (by omega))
  clear hx0 hr4 hr5 hS hSo hU hUo
  go_enter Tryz.func12, Tryz.ntmps12
  go_upto_region 1 with (fail)
  rw [← hW0]
  clear hW0
  go_wp2_with fail
  refine HN.out.mono ?_
  rintro e w3 ⟨h1, h2, hb3⟩
  have HB3 := Lib.hid (HB0.out.trans (hb3.mono HB0.out.size))
  have HR4 := Lib.hid (HR4.out.up hb3)
  have HR5 := Lib.hid (HR5.out.up hb3)
  have HZ3 : Hid (w.heap.size + 2 ≤ w3.heap.size) := by show _ ≤ _; have := hb3.size; have := HZ0.out; omega
  clear HN
  by_cases he : errS S = 0
  rotate_left
  · obtain rfl := h2 he
    have hne : (errS S != 0) = true := by simpa using he
    obtain ⟨W4, hW4⟩ : ∃ W, W = w3.alloc (.cells #[.map none] 28) := ⟨_, rfl⟩
    obtain ⟨g7, hg7⟩ : ∃ g, g = w3.heap.size := ⟨_, rfl⟩
    have hb4 : Below w3.heap.size w3 W4 := by rw [hW4]; exact ((Ext.refl w3).alloc _).below
    have HR7 : Hid (Row W4 g7 28 [.map none]) := by show Row _ _ _ _; rw [hW4, hg7]; exact Row.new w3 _ _
    obtain ⟨W5, hW5⟩ : ∃ W, W = W4.alloc (.cells #[.slice SA S.length SC, .slice none 0 0] 31) := ⟨_, rfl⟩
    obtain ⟨g9, hg9⟩ : ∃ g, g = W4.heap.size := ⟨_, rfl⟩
    have hb5 : Below W4.heap.size W4 W5 := by rw [hW5]; exact ((Ext.refl W4).alloc _).below
    have HR9 : Hid (Row W5 g9 31 [.slice SA S.length SC, .slice none 0 0]) := by show Row _ _ _ _; rw [hW5, hg9]; exact Row.new W4 _ _
    have HR7 := Lib.hid (HR7.out.up hb5)
    have hb45 := hb4.trans (hb5.mono hb4.size)
    have HR4 := Lib.hid (HR4.out.up hb45)
    have HR5 := Lib.hid (HR5.out.up hb45)
    have HB5 := Lib.hid (HB3.out.trans (hb45.mono HB3.out.size))
    have HGZ : Hid (w.heap.size + 2 ≤ g7 ∧ w.heap.size + 2 ≤ g9) := by
      have h1 := hb4.size
      have h3 := HZ3.out
      exact ⟨by omega, by omega⟩
    have HE := Lib.hid he
    have HW4 := Lib.hid hW4
    have HW5 := Lib.hid hW5
    have HG7 := Lib.hid hg7
    have HG9 := Lib.hid hg9
    clear h1 h2 hb3 he hb4 hb5 hb45 hW4 hW5 hg7 hg9
    go_upto_region 2 with (fail)
    rw [← HW4.out, ← HG7.out]
    clear HW4 HG7
    have c7 : W5.cell? ⟨g7, 0, none⟩ = some (.map none) := HR7.out.cell 0
    have z7 := HR7.out.lt
    go_upto_region 4 with (fail)
    rw [← HW5.out, ← HG9.out]
    clear HW5 HG9
    have c90 : W5.cell? ⟨g9, 0, none⟩ = some (.slice SA S.length SC) := HR9.out.cell 0
    have c91 : W5.cell? ⟨g9, 1, none⟩ = some (.slice none 0 0) := HR9.out.cell 1
    have z9 := HR9.out.lt
    have p0 : W5.drew.cell? ⟨w.heap.size, 0, none⟩ = some (.map none) := HR4.out.cell 0
    have p1 : W5.drew.frozen? ⟨w.heap.size, 0, none⟩ = false := HR4.out.frozen 0
    have p3 : W5.drew.cell? ⟨w.heap.size + 1, 0, none⟩ = some (.slice none 0 0) := HR5.out.cell 0
    have p4 : W5.drew.cell? ⟨w.heap.size + 1, 1, none⟩ = some (.slice none 0 0) := HR5.out.cell 1
    have p5 : W5.drew.frozen? ⟨w.heap.size + 1, 0, none⟩ = false := HR5.out.frozen 0
    have p6 : W5.drew.frozen? ⟨w.heap.size + 1, 1, none⟩ = false := HR5.out.frozen 1
    have p7 := HR4.out.lt
    have p8 := HR5.out.lt
    have hr5a : Row (W5.setCell ⟨w.heap.size, 0, none⟩ (.map none)).drew (w.heap.size + 1) 31 [.slice none 0 0, .slice none 0 0] := (HR5.out.far (p := ⟨w.heap.size, 0, none⟩) (by show w.heap.size + 1 ≠ w.heap.size; omega) _).drew
    have r3 : (W5.setCell ⟨w.heap.size, 0, none⟩ (.map none)).drew.cell? ⟨w.heap.size + 1, 0, none⟩ = some (.slice none 0 0) := hr5a.cell 0
    have r4 : (W5.setCell ⟨w.heap.size, 0, none⟩ (.map none)).drew.cell? ⟨w.heap.size + 1, 1, none⟩ = some (.slice none 0 0) := hr5a.cell 1
    have r5 : (W5.setCell ⟨w.heap.size, 0, none⟩ (.map none)).drew.frozen? ⟨w.heap.size + 1, 0, none⟩ = false := hr5a.frozen 0
    have r6 : (W5.setCell ⟨w.heap.size, 0, none⟩ (.map none)).drew.frozen? ⟨w.heap.size + 1, 1, none⟩ = false := hr5a.frozen 1
    have r7 := hr5a.lt
    have hr5b : Row ((W5.setCell ⟨w.heap.size, 0, none⟩ (.map none)).setCell ⟨w.heap.size + 1, 0, none⟩ (.slice SA S.length SC)).drew (w.heap.size + 1) 31 [.slice SA S.length SC, .slice none 0 0] := ((HR5.out.far (p := ⟨w.heap.size, 0, none⟩) (by show w.heap.size + 1 ≠ w.heap.size; omega) _).set 0 _).drew
    have r8 : ((W5.setCell ⟨w.heap.size, 0, none⟩ (.map none)).setCell ⟨w.heap.size + 1, 0, none⟩ (.slice SA S.length SC)).drew.cell? ⟨w.heap.size + 1, 1, none⟩ = some (.slice none 0 0) := hr5b.cell 1
    have r9 : ((W5.setCell ⟨w.heap.size, 0, none⟩ (.map none)).setCell ⟨w.heap.size + 1, 0, none⟩ (.slice SA S.length SC)).drew.frozen? ⟨w.heap.size + 1, 1, none⟩ = false := hr5b.frozen 1
    have r10 := hr5b.lt
    have hne7 : g7 ≠ w.heap.size := by have := HGZ.out; omega
    have hne9 : g9 ≠ w.heap.size := by have := HGZ.out; omega
    have HK7 := Lib.hid (HR7.out.far (p := ⟨w.heap.size, 0, none⟩) hne7 (.map none)).drew
    have HK9 := Lib.hid (HR9.out.far (p := ⟨w.heap.size, 0, none⟩) hne9 (.map none)).drew
    have KEEP : Hid ((W5.setCell ⟨w.heap.size, 0, none⟩ (.map none)).drew.cell? ⟨g7, 0, none⟩ = some (.map none) ∧ (W5.setCell ⟨w.heap.size, 0, none⟩ (.map none)).drew.cell? ⟨g9, 0, none⟩ = some (.slice SA S.length SC) ∧ (W5.setCell ⟨w.heap.size, 0, none⟩ (.map none)).drew.cell? ⟨g9, 1, none⟩ = some (.slice none 0 0)) := ⟨HK7.out.cell 0, HK9.out.cell 0, HK9.out.cell 1⟩
    clear hne7 hne9
    refine regionS (S := (fun w' => w'.cell? ⟨g7, 0, none⟩ = some (.map none) ∧ w'.cell? ⟨g9, 0, none⟩ = some (.slice SA S.length SC) ∧ w'.cell? ⟨g9, 1, none⟩ = some (.slice none 0 0))) [3, 4] (by kernel_rfl) ⟨c7, c90, c91⟩ (fun hHeld => ?_)
    refine takeS (i := 0) (v := ?_) (some 23) rfl rfl (by kernel_rfl) (by decide) (by kernel_rfl) (by kernel_rfl) (by kernel_rfl) (by kernel_rfl) (fun _ _ _ h => h) (Or.inl ⟨by rfl, ?_⟩) (by assumption) ?_
    rotate_left 1
    · (intro w0 hSw; (try dsimp only at hSw); go_simp; try (with_reducible rfl))
    try simp only [Act.put, List.setIfInBounds_toArray, List.set_cons_succ, List.set_cons_zero]
    refine takeS (i := 1) (v := ?_) (some 24) rfl rfl (by kernel_rfl) (by decide) (by kernel_rfl) (by kernel_rfl) (by kernel_rfl) (by kernel_rfl) (fun _ _ _ h => h) (Or.inl ⟨by rfl, ?_⟩) (by assumption) ?_
    rotate_left 1
    · (intro w0 hSw; (try dsimp only at hSw); go_simp; try (with_reducible rfl))
    try simp only [Act.put, List.setIfInBounds_toArray, List.set_cons_succ, List.set_cons_zero]
    refine oneS (i := 2) (by kernel_rfl) rfl (fun K hK => ?_)
    go_simp
    go_wp2_with fail
    refine hK.out _ _ KEEP.out (fun hHeld => ?_)
    clear hK K
    try simp only [Act.put, List.setIfInBounds_toArray, List.set_cons_succ, List.set_cons_zero]
    refine oneL (i := 3) (by kernel_rfl) rfl (by decide) (fun K hK => ?_)
    go_simp
    go_wp2_with fail
    refine hK.out _ _ ?_
    clear hK K
    try simp only [Act.put, List.setIfInBounds_toArray, List.set_cons_succ, List.set_cons_zero]
    refine oneL (i := 4) (by kernel_rfl) rfl (by decide) (fun K hK => ?_)
    go_simp
    go_wp2_with fail
    refine hK.out _ _ ?_
    clear hK K
    try simp only [Act.put, List.setIfInBounds_toArray, List.set_cons_succ, List.set_cons_zero]
    refine doneS (by kernel_rfl) ?_ _
    clear c7 c90 c91 p0 p1 p3 p4 p5 p6 p7 p8 r3 r4 r5 r6 r7 r8 r9 r10 hr5a hr5b z7 z9
    obtain ⟨W6, hW6⟩ : ∃ V, V = (((W5.setCell ⟨w.heap.size, 0, none⟩ (.map none)).setCell ⟨w.heap.size + 1, 0, none⟩ (.slice SA S.length SC)).setCell ⟨w.heap.size + 1, 1, none⟩ (.slice none 0 0)).drew := ⟨_, rfl⟩
    rw [← hW6]
    have HR46 : Hid (Row W6 w.heap.size 28 [.map none]) := by show Row _ _ _ _; rw [hW6]; exact (((HR4.out.set 0 _).far (p := ⟨w.heap.size + 1, 0, none⟩) (by show w.heap.size ≠ w.heap.size + 1; omega) _).far (p := ⟨w.heap.size + 1, 1, none⟩) (by show w.heap.size ≠ w.heap.size + 1; omega) _).drew
    have HR56 : Hid (Row W6 (w.heap.size + 1) 31 [.slice SA S.length SC, .slice none 0 0]) := by show Row _ _ _ _; rw [hW6]; exact (((HR5.out.far (p := ⟨w.heap.size, 0, none⟩) (by show w.heap.size + 1 ≠ w.heap.size; omega) _).set 0 _).set 1 _).drew
    have HB6 : Hid (Below w.heap.size w W6) := by show Below _ _ _; rw [hW6]; exact (((HB5.out.setCell (p := ⟨w.heap.size, 0, none⟩) (Nat.le_refl _) _).setCell (p := ⟨w.heap.size + 1, 0, none⟩) (by show w.heap.size ≤ w.heap.size + 1; omega) _).setCell (p := ⟨w.heap.size + 1, 1, none⟩) (by show w.heap.size ≤ w.heap.size + 1; omega) _).drew
    clear hW6
    have d0 : W6.cell? ⟨w.heap.size, 0, none⟩ = some (.map none) := HR46.out.cell 0
    have d1 : W6.cell? ⟨w.heap.size + 1, 0, none⟩ = some (.slice SA S.length SC) := HR56.out.cell 0
    have d2 : W6.cell? ⟨w.heap.size + 1, 1, none⟩ = some (.slice none 0 0) := HR56.out.cell 1
    go_wp2_with fail
    refine bodyPost_ret (v := .tuple #[.agg #[.map none], .agg #[.slice SA S.length SC, .slice none 0 0], .bool false]) (by simp [results, Tryz.results12, go_sem, d0, d1, d2]) rfl ⟨fun _ => rfl, fun h => absurd h HE.out, HB6.out⟩
  obtain ⟨bm, rfl, hdb⟩ := h1 he
  obtain ⟨bd, rfl⟩ := hdb.form
  obtain ⟨W4, hW4⟩ : ∃ W, W = w3.alloc (.cells #[.map (some bd)] 28) := ⟨_, rfl⟩
  obtain ⟨g7, hg7⟩ : ∃ g, g = w3.heap.size := ⟨_, rfl⟩
  have hb4 : Below w3.heap.size w3 W4 := by rw [hW4]; exact ((Ext.refl w3).alloc _).below
  have HR7 : Hid (Row W4 g7 28 [.map (some bd)]) := by show Row _ _ _ _; rw [hW4, hg7]; exact Row.new w3 _ _
  have hlt7 := HR7.out.lt
  obtain ⟨W5, hW5⟩ : ∃ W, W = W4.alloc (.cells #[.slice SA S.length SC, .slice none 0 0] 31) := ⟨_, rfl⟩
  obtain ⟨g9, hg9⟩ : ∃ g, g = W4.heap.size := ⟨_, rfl⟩
  have hb5 : Below W4.heap.size W4 W5 := by rw [hW5]; exact ((Ext.refl W4).alloc _).below
  have HR9 : Hid (Row W5 g9 31 [.slice SA S.length SC, .slice none 0 0]) := by show Row _ _ _ _; rw [hW5, hg9]; exact Row.new W4 _ _
  have HR7 := Lib.hid (HR7.out.up hb5)
  have hb45 := hb4.trans (hb5.mono hb4.size)
  have HR4 := Lib.hid (HR4.out.up hb45)
  have HR5 := Lib.hid (HR5.out.up hb45)
  have HB5 := Lib.hid (HB3.out.trans (hb45.mono HB3.out.size))
  have HGZ : Hid (w.heap.size + 2 ≤ g7 ∧ w.heap.size + 2 ≤ g9 ∧ g7 < g9) := by
    have h1 := hb4.size
    have h3 := HZ3.out
    exact ⟨by omega, by omega, by rw [hg9]; exact hlt7⟩
  have HD5 : Hid (DbM (fun b => w.heap.size + 2 ≤ b ∧ b ≠ g7 ∧ b ≠ g9) S W5 (.map (some bd)) (fun _ => [])) := by
    refine DbM.up (DbM.weak hdb fun b hb hp => ?_) hb45
    have h1 := hb4.size
    exact ⟨hp, by omega, by omega⟩
  have HE := Lib.hid he
  have HW4 := Lib.hid hW4
  have HW5 := Lib.hid hW5
  have HG7 := Lib.hid hg7
  have HG9 := Lib.hid hg9
  clear h1 h2 hb3 he hb4 hb5 hb45 hW4 hW5 hg7 hg9 hdb hlt7
  go_upto_region 2 with (fail)
  rw [← HW4.out, ← HG7.out]
  clear HW4 HG7
  have c7 : W5.cell? ⟨g7, 0, none⟩ = some (.map (some bd)) := HR7.out.cell 0
  have z7 := HR7.out.lt
  go_upto_region 5 with (fail)
  rw [← HW5.out, ← HG9.out]
  clear HW5 HG9 c7 z7
  go_wp2_with fail
  go_loopw [10] (fun iv wx => ∃ (k md l : Nat) (FA : Option Addr) (FC : Nat) (cs : List Value), k ≤ us.length ∧ iv = .int .i64 k ∧ Row wx g7 28 [.map (some md)] ∧ Row wx g9 31 [.slice SA S.length SC, .slice FA l FC] ∧ l = (madeF S (us.take k)).2.length ∧ DbM (fun b => w.heap.size + 2 ≤ b ∧ b ≠ g7 ∧ b ≠ g9) S wx (.map (some md)) (madeF S (us.take k)).1 ∧ FctCs w.heap.size w (madeF S (us.take k)).2 cs ∧ wx.ownsRow w.heap.size 85 2 (.slice FA l FC) l cs ∧ (∀ f ∈ (madeF S (us.take k)).2, f.2.length ≤ 1000000) ∧ Below (w.heap.size + 2) W5 wx) (fun iv _ => us.length - (intOf iv).toNat)
  case atStart => exact ⟨0, bd, 0, none, 0, [], Nat.zero_le _, rfl, HR7.out, HR9.out, rfl, HD5.out, FctCs.nil, own_nil _ _ _ _, fun f hf => (by cases hf), Below.refl _ _⟩
  case round =>
    obtain ⟨k, md, l, FA, FC, cs, hk, rfl, hr7, hr9, hl, hdb, hcs, hown, hrows, hbr⟩ := hrel
    clear HR7 HR9 HD5
    have HR7 := Lib.hid hr7
    have HR9 := Lib.hid hr9
    have HL := Lib.hid hl
    have HDB := Lib.hid hdb
    have HCS := Lib.hid hcs
    have HOWN := Lib.hid hown
    have HRW := Lib.hid hrows
    have HB5R := Lib.hid hbr
    have HBR := Lib.hid (HB5.out.trans (hbr.mono (by omega)))
    have HR4 := Lib.hid (HR4.out.below hbr (by omega))
    have HR5 := Lib.hid (HR5.out.below hbr (by omega))
    clear hr7 hr9 hl hdb hcs hown hrows hbr
    by_cases hkl : k < us.length
    · obtain ⟨ub, uo, rfl, hubw, huc⟩ := HU.out (by intro h0; rw [h0] at hkl; simp at hkl)
      obtain ⟨RA, RC, u0, u1, u2, hrw0⟩ := huc k hkl
      have hrx := Sl.more (Sl.below hrw0 HBR.out (Nat.le_refl _)) HBR.out.size
      have huk := HUO.out _ (List.getElem_mem hkl)
      have HMT := Lib.hid (madeF_take S hkl)
      obtain ⟨u, hu⟩ : ∃ u, u = us[k] := ⟨_, rfl⟩
      rw [← hu] at u0 u1 u2 hrx huk HMT hrw0
      clear hu
      obtain ⟨dl, nm, x⟩ := u
      have HUU : Hid (UpdsM w.heap.size w (some ⟨ub, uo + k * 3, none⟩) [⟨dl, nm, x⟩]) := by
        show UpdsM _ _ _ _
        intro _
        refine ⟨ub, uo + k * 3, rfl, hubw, fun i hi => ?_⟩
        obtain rfl : i = 0 := by simpa using hi
        exact ⟨RA, RC, u0, u1, u2, hrw0⟩
      have u0 : wr.cell? ⟨ub, uo + k * 3, none⟩ = some (.bool dl) := cell_below HBR.out u0
      have u1 : wr.cell? ⟨ub, uo + k * 3 + 1, none⟩ = some (.string nm) := cell_below HBR.out u1
      have u2 : wr.cell? ⟨ub, uo + k * 3 + 2, none⟩ = some (.slice RA x.length RC) := cell_below HBR.out u2
      have hub : ub < wr.heap.size := Nat.lt_of_lt_of_le hubw HBR.out.size
      have HRX : Hid (SlR wr.heap.size wr RA x) := hrx
      have HRW0 : Hid (SlR w.heap.size w RA x) := hrw0
      have HUK : Hid (UpdOk ⟨dl, nm, x⟩) := huk
      obtain ⟨F0, hF0⟩ : ∃ F, F = (madeF S (us.take k)).1 := ⟨_, rfl⟩
      rw [← hF0] at HDB
      have HF0 := Lib.hid hF0
      obtain ⟨r1, hr1⟩ : ∃ r, r = applyF S F0 0 [⟨dl, nm, x⟩] := ⟨_, rfl⟩
      have HR1 : Hid (applyF S F0 0 [⟨dl, nm, x⟩] = r1) := hr1.symm
      have g1 : (0 : Int) ≤ (k : Int) := by omega
      have g2 : (k : Int) < (us.length : Int) := by omega
      have b0 : wr.cell? ⟨g7, 0, none⟩ = some (.map (some md)) := HR7.out.cell 0
      have z7 := HR7.out.lt
      have HZW : Hid (w.heap.size + 2 ≤ wr.heap.size ∧ g7 < wr.heap.size ∧ g9 < wr.heap.size) := ⟨by have := HGZ.out; omega, z7, HR9.out.lt⟩
      have HKP : Hid (∀ V, Below wr.heap.size wr V → V.cell? ⟨g7, 0, none⟩ = some (.map (some md)) ∧ V.cell? ⟨ub, uo + k * 3, none⟩ = some (.bool dl) ∧ V.cell? ⟨ub, uo + k * 3 + 1, none⟩ = some (.string nm) ∧ V.cell? ⟨ub, uo + k * 3 + 2, none⟩ = some (.slice RA x.length RC)) := fun V hb => ⟨cell_below hb b0, cell_below hb u0, cell_below hb u1, cell_below hb u2⟩
      have HKL := Lib.hid hkl
      clear hubw huc hrw0 hrx huk hF0 hr1 hkl
      go_upto_region 8 with (fail)
      go_cut [11, 12, 13] from 31 to 42 (fun q1 q2 q3 wx => ∃ (g : Nat) (mx : Option Nat) (c : Nat), q1 = .pointer (some ⟨g, 0, none⟩) ∧ q2 = .int .i64 (c : Nat) ∧ q3 = .int .i64 r1.1 ∧ wr.heap.size ≤ g ∧ Row wx g 28 [.map mx] ∧ (r1.1 = 0 → DbM (fun b => w.heap.size + 2 ≤ b ∧ b ≠ g7 ∧ b ≠ g9) S wx (.map mx) r1.2.1) ∧ (r1.1 ≠ 0 → mx = none) ∧ Below wr.heap.size wr wx)
      case first =>
        refine wp_region_held_drew (S := (fun w' => w'.cell? ⟨g7, 0, none⟩ = some (.map (some md)) ∧ w'.cell? ⟨ub, uo + k * 3, none⟩ = some (.bool dl) ∧ w'.cell? ⟨ub, uo + k * 3 + 1, none⟩ = some (.string nm) ∧ w'.cell? ⟨ub, uo + k * 3 + 2, none⟩ = some (.slice RA x.length RC))) (by kernel_rfl) (HKP.out wr.drew (Below.refl _ _).drew) (fun hHeld => ?_)
        obtain ⟨V0, hV0⟩ : ∃ V, V = wr.drew := ⟨_, rfl⟩
        have HV : Hid (Below wr.heap.size wr V0) := by show Below _ _ _; rw [hV0]; exact (Below.refl _ _).drew
        have HDX : Hid (DbM (fun b => w.heap.size + 2 ≤ b ∧ b ≠ g7 ∧ b ≠ g9) S V0 (.map (some md)) F0) := by show DbM _ _ _ _ _; rw [hV0]; exact HDB.out.up (Below.refl _ _).drew
        rw [← hV0] at hHeld ⊢
        clear hV0
        refine takeOp (i := 0) (v := ?_) (some 32) rfl rfl (by kernel_rfl) (by kernel_rfl) (by kernel_rfl) (fun _ _ _ h => h) (Or.inl ⟨by rfl, ?_⟩) (by assumption) ?_
        rotate_left 1
        · (intro w0 hSw; (try dsimp only at hSw); go_simp; try (with_reducible rfl))
        try simp only [Act.put, List.setIfInBounds_toArray, List.set_cons_succ, List.set_cons_zero]
        refine takeOp (i := 1) (v := ?_) (some 33) rfl rfl (by kernel_rfl) (by kernel_rfl) (by kernel_rfl) (fun _ _ _ h => h) (Or.inl ⟨by rfl, ?_⟩) (by assumption) ?_
        rotate_left 1
        · (intro w0 hSw; (try dsimp only at hSw); go_simp; try (with_reducible rfl))
        try simp only [Act.put, List.setIfInBounds_toArray, List.set_cons_succ, List.set_cons_zero]
        refine takeOp (i := 2) (v := ?_) (some 34) rfl rfl (by kernel_rfl) (by kernel_rfl) (by kernel_rfl) (fun _ _ _ h => h) (Or.inl ⟨by rfl, ?_⟩) (by assumption) ?_
        rotate_left 1
        · (intro w0 hSw; (try dsimp only at hSw); go_simp; try (with_reducible rfl))
        try simp only [Act.put, List.setIfInBounds_toArray, List.set_cons_succ, List.set_cons_zero]
        refine takeOp (i := 3) (v := ?_) (some 35) rfl rfl (by kernel_rfl) (by kernel_rfl) (by kernel_rfl) (fun _ _ _ h => h) (Or.inl ⟨by rfl, ?_⟩) (by assumption) ?_
        rotate_left 1
        · (intro w0 hSw; (try dsimp only at hSw); go_simp; try (with_reducible rfl))
        try simp only [Act.put, List.setIfInBounds_toArray, List.set_cons_succ, List.set_cons_zero]
        refine takeOp (i := 4) (v := ?_) (some 36) rfl rfl (by kernel_rfl) (by kernel_rfl) (by kernel_rfl) (fun _ _ _ h => h) (Or.inl ⟨by rfl, ?_⟩) (by assumption) ?_
        rotate_left 1
        · (intro w0 hSw; (try dsimp only at hSw); go_simp; try (with_reducible rfl))
        try simp only [Act.put, List.setIfInBounds_toArray, List.set_cons_succ, List.set_cons_zero]
        refine wpAnyH_ready (rs := [5, 11]) (by kernel_rfl) (by simp) ?_
        refine (AllReadyH.cons rfl (fun K hK => ?_) (AllReadyH.cons rfl (fun K hK => ?_) AllReadyH.nil))
        · go_simp
          obtain ⟨V1, hV⟩ : ∃ V', V' = V0.alloc (.cells #[.bool dl, .string nm, .slice RA x.length RC] 53) := ⟨_, rfl⟩
          rw [← hV]
          have hb : Below V0.heap.size V0 V1 := by rw [hV]; exact ((Ext.refl V0).alloc _).below
          obtain ⟨eb, heb⟩ : ∃ g, g = V0.heap.size := ⟨_, rfl⟩
          rw [← heb]
          have HEB : Hid (Row V1 eb 53 [.bool dl, .string nm, .slice RA x.length RC]) := by show Row _ _ _ _; rw [hV, heb]; exact Row.new V0 _ _
          clear heb
          have HDX := Lib.hid (HDX.out.up hb)
          have HV := Lib.hid (Below.then HV.out hb HV.out.size)
          clear hb hV
          refine hK.out _ _ (HKP.out V1 HV.out) (fun hHeld => ?_)
          clear hK K
          try simp only [Act.put, List.setIfInBounds_toArray, List.set_cons_succ, List.set_cons_zero]
          refine wpAnyH_ready (rs := [6, 11]) (by kernel_rfl) (by simp) ?_
          refine (AllReadyH.cons rfl (fun K hK => ?_) (AllReadyH.cons rfl (fun K hK => ?_) AllReadyH.nil))
          · go_simp
            have hap := ctApply_any (fun b => w.heap.size + 2 ≤ b ∧ b ≠ g7 ∧ b ≠ g9) S (.map (some md)) F0 (some ⟨eb, 0, none⟩) 1 [⟨dl, nm, x⟩] V1 HDX.out (fun b hb => ⟨by have := HV.out.size; have := HZW.out; omega, by have := HV.out.size; have := HZW.out; omega, by have := HV.out.size; have := HZW.out; omega⟩) (UpdsM.of_cs (UpdCs.one1 ⟨dl, nm, x⟩ RA RC (Sl.more (Sl.below HRX.out HV.out (Nat.le_refl _)) HV.out.size)) HEB.out.sl) (fun u hu => by rw [List.mem_singleton.1 hu]; exact HUK.out) (by simp) (by omega)
            rw [HR1.out] at hap
            refine hap.mono ?_
            rintro e V2 hp
            obtain ⟨mx, c, rfl, hok, hbad, hb⟩ := hp.shape
            have HOKX : Hid (r1.1 = 0 → DbM (fun b => w.heap.size + 2 ≤ b ∧ b ≠ g7 ∧ b ≠ g9) S V2 (.map mx) r1.2.1) := fun h => (hok h).2
            have HBADX : Hid (r1.1 ≠ 0 → mx = none) := fun h => (hbad h).2
            have HV := Lib.hid (Below.then HV.out hb HV.out.size)
            clear hok hbad hb hp hap
            go_wp2_with fail
            refine hK.out _ _ (HKP.out V2 HV.out) (fun hHeld => ?_)
            clear hK K
            try simp only [Act.put, List.setIfInBounds_toArray, List.set_cons_succ, List.set_cons_zero]
            refine takeOp (i := 7) (v := ?_) (some 31) rfl rfl (by kernel_rfl) (by kernel_rfl) (by kernel_rfl) (fun _ _ _ h => h) (Or.inl ⟨by rfl, ?_⟩) (by assumption) ?_
            rotate_left 1
            · (intro w0 hSw; (try dsimp only at hSw); go_simp; try (with_reducible rfl))
            try simp only [Act.put, List.setIfInBounds_toArray, List.set_cons_succ, List.set_cons_zero]
            refine takeOp (i := 8) (v := ?_) (some 39) rfl rfl (by kernel_rfl) (by kernel_rfl) (by kernel_rfl) (fun _ _ _ h => h) (Or.inl ⟨by rfl, ?_⟩) (by assumption) ?_
            rotate_left 1
            · (intro w0 hSw; (try dsimp only at hSw); go_simp; try (with_reducible rfl))
            try simp only [Act.put, List.setIfInBounds_toArray, List.set_cons_succ, List.set_cons_zero]
            refine takeOp (i := 9) (v := ?_) (some 40) rfl rfl (by kernel_rfl) (by kernel_rfl) (by kernel_rfl) (fun _ _ _ h => h) (Or.inl ⟨by rfl, ?_⟩) (by assumption) ?_
            rotate_left 1
            · (intro w0 hSw; (try dsimp only at hSw); go_simp; try (with_reducible rfl))
            try simp only [Act.put, List.setIfInBounds_toArray, List.set_cons_succ, List.set_cons_zero]
            refine takeOp (i := 10) (v := ?_) (some 41) rfl rfl (by kernel_rfl) (by kernel_rfl) (by kernel_rfl) (fun _ _ _ h => h) (Or.inl ⟨by rfl, ?_⟩) (by assumption) ?_
            rotate_left 1
            · (intro w0 hSw; (try dsimp only at hSw); go_simp; try (with_reducible rfl))
            try simp only [Act.put, List.setIfInBounds_toArray, List.set_cons_succ, List.set_cons_zero]
            refine wpAnyH_ready (rs := [11]) (by kernel_rfl) (by simp) ?_
            refine (AllReadyH.cons rfl (fun K hK => ?_) AllReadyH.nil)
            go_simp
            obtain ⟨V3, hV⟩ : ∃ V', V' = V2.alloc (.cells #[.map none] 28) := ⟨_, rfl⟩
            rw [← hV]
            have hb : Below V2.heap.size V2 V3 := by rw [hV]; exact ((Ext.refl V2).alloc _).below
            obtain ⟨gb, hgb⟩ : ∃ g, g = V2.heap.size := ⟨_, rfl⟩
            rw [← hgb]
            have HG : Hid (Row V3 gb 28 [.map none]) := by show Row _ _ _ _; rw [hV, hgb]; exact Row.new V2 _ _
            have HGZ : Hid (wr.heap.size ≤ gb) := by show _ ≤ _; rw [hgb]; exact HV.out.size
            have HOKX : Hid (r1.1 = 0 → DbM (fun b => (w.heap.size + 2 ≤ b ∧ b ≠ g7 ∧ b ≠ g9) ∧ b ≠ gb) S V3 (.map mx) r1.2.1) := fun h => ((HOKX.out h).weak fun b hb hp => ⟨hp, by omega⟩).up hb
            clear hgb
            have HV := Lib.hid (Below.then HV.out hb HV.out.size)
            clear hb hV
            refine hK.out _ _ (HKP.out V3 HV.out) (fun hHeld => ?_)
            clear hK K
            try simp only [Act.put, List.setIfInBounds_toArray, List.set_cons_succ, List.set_cons_zero]
            refine wpAnyH_ready (rs := [12]) (by kernel_rfl) (by simp) ?_
            refine (AllReadyH.cons rfl (fun K hK => ?_) AllReadyH.nil)
            have m0 := HG.out.frozen 0
            have m2 := HG.out.lt
            have m3 : V3.cell? ⟨gb, 0, none⟩ = some (.map none) := HG.out.cell 0
            go_simp
            obtain ⟨V4, hV⟩ : ∃ V', V' = V3.setCell ⟨gb, 0, none⟩ (.map mx) := ⟨_, rfl⟩
            rw [← hV]
            have HG : Hid (Row V4 gb 28 [.map mx]) := by show Row _ _ _ _; rw [hV]; exact HG.out.set 0 _
            have HOKX : Hid (r1.1 = 0 → DbM (fun b => (w.heap.size + 2 ≤ b ∧ b ≠ g7 ∧ b ≠ g9) ∧ b ≠ gb) S V4 (.map mx) r1.2.1) := fun h => by rw [hV]; exact (HOKX.out h).keep (Stay.set (fun hp => hp.2 rfl) 0 _)
            have HV : Hid (Below wr.heap.size wr V4) := by show Below _ _ _; rw [hV]; exact HV.out.setCell (p := ⟨gb, 0, none⟩) HGZ.out _
            clear hV m0 m2 m3
            refine hK.out _ _ (HKP.out V4 HV.out) (fun hHeld => ?_)
            clear hK K
            try simp only [Act.put, List.setIfInBounds_toArray, List.set_cons_succ, List.set_cons_zero]
            refine takeOp (i := 13) (v := ?_) (some 12) rfl rfl (by kernel_rfl) (by kernel_rfl) (by kernel_rfl) (fun _ _ _ h => h) (Or.inl ⟨by rfl, ?_⟩) (by assumption) ?_
            rotate_left 1
            · (intro w0 hSw; (try dsimp only at hSw); go_simp; try (with_reducible rfl))
            try simp only [Act.put, List.setIfInBounds_toArray, List.set_cons_succ, List.set_cons_zero]
            refine takeOp (i := 14) (v := ?_) (some 13) rfl rfl (by kernel_rfl) (by kernel_rfl) (by kernel_rfl) (fun _ _ _ h => h) (Or.inl ⟨by rfl, ?_⟩) (by assumption) ?_
            rotate_left 1
            · (intro w0 hSw; (try dsimp only at hSw); go_simp; try (with_reducible rfl))
            try simp only [Act.put, List.setIfInBounds_toArray, List.set_cons_succ, List.set_cons_zero]
            refine wpAnyH_done (by kernel_rfl) ?_ _
            go_wp2_with fail
            go_meet
            case rel => exact ⟨gb, mx, c, rfl, rfl, rfl, HGZ.out, HG.out, fun h => (HOKX.out h).weak fun _ _ hp => hp.1, HBADX.out, HV.out⟩
          · go_simp
            obtain ⟨V2, hV⟩ : ∃ V', V' = V1.alloc (.cells #[.map none] 28) := ⟨_, rfl⟩
            rw [← hV]
            have hb : Below V1.heap.size V1 V2 := by rw [hV]; exact ((Ext.refl V1).alloc _).below
            have HEB := Lib.hid (HEB.out.up hb)
            obtain ⟨gb, hgb⟩ : ∃ g, g = V1.heap.size := ⟨_, rfl⟩
            rw [← hgb]
            have HG : Hid (Row V2 gb 28 [.map none]) := by show Row _ _ _ _; rw [hV, hgb]; exact Row.new V1 _ _
            have HGZ : Hid (wr.heap.size ≤ gb) := by show _ ≤ _; rw [hgb]; exact HV.out.size
            have HDX : Hid (DbM (fun b => (w.heap.size + 2 ≤ b ∧ b ≠ g7 ∧ b ≠ g9) ∧ b ≠ gb) S V2 (.map (some md)) F0) := (HDX.out.weak fun b hb hp => ⟨hp, by omega⟩).up hb
            clear hgb
            have HV := Lib.hid (Below.then HV.out hb HV.out.size)
            clear hb hV
            refine hK.out _ _ (HKP.out V2 HV.out) (fun hHeld => ?_)
            clear hK K
            try simp only [Act.put, List.setIfInBounds_toArray, List.set_cons_succ, List.set_cons_zero]
            refine wpAnyH_ready (rs := [6]) (by kernel_rfl) (by simp) ?_
            refine (AllReadyH.cons rfl (fun K hK => ?_) AllReadyH.nil)
            go_simp
            have hap := ctApply_any (fun b => (w.heap.size + 2 ≤ b ∧ b ≠ g7 ∧ b ≠ g9) ∧ b ≠ gb) S (.map (some md)) F0 (some ⟨eb, 0, none⟩) 1 [⟨dl, nm, x⟩] V2 HDX.out (fun b hb => ⟨⟨by have := HV.out.size; have := HZW.out; omega, by have := HV.out.size; have := HZW.out; omega, by have := HV.out.size; have := HZW.out; omega⟩, by have := HG.out.lt; omega⟩) (UpdsM.of_cs (UpdCs.one1 ⟨dl, nm, x⟩ RA RC (Sl.more (Sl.below HRX.out HV.out (Nat.le_refl _)) HV.out.size)) HEB.out.sl) (fun u hu => by rw [List.mem_singleton.1 hu]; exact HUK.out) (by simp) (by omega)
            rw [HR1.out] at hap
            refine hap.mono ?_
            rintro e V3 hp
            obtain ⟨mx, c, rfl, hok, hbad, hb⟩ := hp.shape
            have HOKX : Hid (r1.1 = 0 → DbM (fun b => (w.heap.size + 2 ≤ b ∧ b ≠ g7 ∧ b ≠ g9) ∧ b ≠ gb) S V3 (.map mx) r1.2.1) := fun h => (hok h).2
            have HBADX : Hid (r1.1 ≠ 0 → mx = none) := fun h => (hbad h).2
            have HG := Lib.hid (HG.out.up hb)
            have HV := Lib.hid (Below.then HV.out hb HV.out.size)
            clear hok hbad hb hp hap
            go_wp2_with fail
            refine hK.out _ _ (HKP.out V3 HV.out) (fun hHeld => ?_)
            clear hK K
            try simp only [Act.put, List.setIfInBounds_toArray, List.set_cons_succ, List.set_cons_zero]
            refine takeOp (i := 7) (v := ?_) (some 31) rfl rfl (by kernel_rfl) (by kernel_rfl) (by kernel_rfl) (fun _ _ _ h => h) (Or.inl ⟨by rfl, ?_⟩) (by assumption) ?_
            rotate_left 1
            · (intro w0 hSw; (try dsimp only at hSw); go_simp; try (with_reducible rfl))
            try simp only [Act.put, List.setIfInBounds_toArray, List.set_cons_succ, List.set_cons_zero]
            refine takeOp (i := 8) (v := ?_) (some 39) rfl rfl (by kernel_rfl) (by kernel_rfl) (by kernel_rfl) (fun _ _ _ h => h) (Or.inl ⟨by rfl, ?_⟩) (by assumption) ?_
            rotate_left 1
            · (intro w0 hSw; (try dsimp only at hSw); go_simp; try (with_reducible rfl))
            try simp only [Act.put, List.setIfInBounds_toArray, List.set_cons_succ, List.set_cons_zero]
            refine takeOp (i := 9) (v := ?_) (some 40) rfl rfl (by kernel_rfl) (by kernel_rfl) (by kernel_rfl) (fun _ _ _ h => h) (Or.inl ⟨by rfl, ?_⟩) (by assumption) ?_
            rotate_left 1
            · (intro w0 hSw; (try dsimp only at hSw); go_simp; try (with_reducible rfl))
            try simp only [Act.put, List.setIfInBounds_toArray, List.set_cons_succ, List.set_cons_zero]
            refine takeOp (i := 10) (v := ?_) (some 41) rfl rfl (by kernel_rfl) (by kernel_rfl) (by kernel_rfl) (fun _ _ _ h => h) (Or.inl ⟨by rfl, ?_⟩) (by assumption) ?_
            rotate_left 1
            · (intro w0 hSw; (try dsimp only at hSw); go_simp; try (with_reducible rfl))
            try simp only [Act.put, List.setIfInBounds_toArray, List.set_cons_succ, List.set_cons_zero]
            refine wpAnyH_ready (rs := [12]) (by kernel_rfl) (by simp) ?_
            refine (AllReadyH.cons rfl (fun K hK => ?_) AllReadyH.nil)
            have m0 := HG.out.frozen 0
            have m2 := HG.out.lt
            have m3 : V3.cell? ⟨gb, 0, none⟩ = some (.map none) := HG.out.cell 0
            go_simp
            obtain ⟨V4, hV⟩ : ∃ V', V' = V3.setCell ⟨gb, 0, none⟩ (.map mx) := ⟨_, rfl⟩
            rw [← hV]
            have HG : Hid (Row V4 gb 28 [.map mx]) := by show Row _ _ _ _; rw [hV]; exact HG.out.set 0 _
            have HOKX : Hid (r1.1 = 0 → DbM (fun b => (w.heap.size + 2 ≤ b ∧ b ≠ g7 ∧ b ≠ g9) ∧ b ≠ gb) S V4 (.map mx) r1.2.1) := fun h => by rw [hV]; exact (HOKX.out h).keep (Stay.set (fun hp => hp.2 rfl) 0 _)
            have HV : Hid (Below wr.heap.size wr V4) := by show Below _ _ _; rw [hV]; exact HV.out.setCell (p := ⟨gb, 0, none⟩) HGZ.out _
            clear hV m0 m2 m3
            refine hK.out _ _ (HKP.out V4 HV.out) (fun hHeld => ?_)
            clear hK K
            try simp only [Act.put, List.setIfInBounds_toArray, List.set_cons_succ, List.set_cons_zero]
            refine takeOp (i := 13) (v := ?_) (some 12) rfl rfl (by kernel_rfl) (by kernel_rfl) (by kernel_rfl) (fun _ _ _ h => h) (Or.inl ⟨by rfl, ?_⟩) (by assumption) ?_
            rotate_left 1
            · (intro w0 hSw; (try dsimp only at hSw); go_simp; try (with_reducible rfl))
            try simp only [Act.put, List.setIfInBounds_toArray, List.set_cons_succ, List.set_cons_zero]
            refine takeOp (i := 14) (v := ?_) (some 13) rfl rfl (by kernel_rfl) (by kernel_rfl) (by kernel_rfl) (fun _ _ _ h => h) (Or.inl ⟨by rfl, ?_⟩) (by assumption) ?_
            rotate_left 1
            · (intro w0 hSw; (try dsimp only at hSw); go_simp; try (with_reducible rfl))
            try simp only [Act.put, List.setIfInBounds_toArray, List.set_cons_succ, List.set_cons_zero]
            refine wpAnyH_done (by kernel_rfl) ?_ _
            go_wp2_with fail
            go_meet
            case rel => exact ⟨gb, mx, c, rfl, rfl, rfl, HGZ.out, HG.out, fun h => (HOKX.out h).weak fun _ _ hp => hp.1, HBADX.out, HV.out⟩
        · go_simp
          obtain ⟨V1, hV⟩ : ∃ V', V' = V0.alloc (.cells #[.map none] 28) := ⟨_, rfl⟩
          rw [← hV]
          have hb : Below V0.heap.size V0 V1 := by rw [hV]; exact ((Ext.refl V0).alloc _).below
          obtain ⟨gb, hgb⟩ : ∃ g, g = V0.heap.size := ⟨_, rfl⟩
          rw [← hgb]
          have HG : Hid (Row V1 gb 28 [.map none]) := by show Row _ _ _ _; rw [hV, hgb]; exact Row.new V0 _ _
          have HGZ : Hid (wr.heap.size ≤ gb) := by show _ ≤ _; rw [hgb]; exact HV.out.size
          have HDX : Hid (DbM (fun b => (w.heap.size + 2 ≤ b ∧ b ≠ g7 ∧ b ≠ g9) ∧ b ≠ gb) S V1 (.map (some md)) F0) := (HDX.out.weak fun b hb hp => ⟨hp, by omega⟩).up hb
          clear hgb
          have HV := Lib.hid (Below.then HV.out hb HV.out.size)
          clear hb hV
          refine hK.out _ _ (HKP.out V1 HV.out) (fun hHeld => ?_)
          clear hK K
          try simp only [Act.put, List.setIfInBounds_toArray, List.set_cons_succ, List.set_cons_zero]
          refine wpAnyH_ready (rs := [5]) (by kernel_rfl) (by simp) ?_
          refine (AllReadyH.cons rfl (fun K hK => ?_) AllReadyH.nil)
          go_simp
          obtain ⟨V2, hV⟩ : ∃ V', V' = V1.alloc (.cells #[.bool dl, .string nm, .slice RA x.length RC] 53) := ⟨_, rfl⟩
          rw [← hV]
          have hb : Below V1.heap.size V1 V2 := by rw [hV]; exact ((Ext.refl V1).alloc _).below
          have HG := Lib.hid (HG.out.up hb)
          obtain ⟨eb, heb⟩ : ∃ g, g = V1.heap.size := ⟨_, rfl⟩
          rw [← heb]
          have HEB : Hid (Row V2 eb 53 [.bool dl, .string nm, .slice RA x.length RC]) := by show Row _ _ _ _; rw [hV, heb]; exact Row.new V1 _ _
          clear heb
          have HDX := Lib.hid (HDX.out.up hb)
          have HV := Lib.hid (Below.then HV.out hb HV.out.size)
          clear hb hV
          refine hK.out _ _ (HKP.out V2 HV.out) (fun hHeld => ?_)
          clear hK K
          try simp only [Act.put, List.setIfInBounds_toArray, List.set_cons_succ, List.set_cons_zero]
          refine wpAnyH_ready (rs := [6]) (by kernel_rfl) (by simp) ?_
          refine (AllReadyH.cons rfl (fun K hK => ?_) AllReadyH.nil)
          go_simp
          have hap := ctApply_any (fun b => (w.heap.size + 2 ≤ b ∧ b ≠ g7 ∧ b ≠ g9) ∧ b ≠ gb) S (.map (some md)) F0 (some ⟨eb, 0, none⟩) 1 [⟨dl, nm, x⟩] V2 HDX.out (fun b hb => ⟨⟨by have := HV.out.size; have := HZW.out; omega, by have := HV.out.size; have := HZW.out; omega, by have := HV.out.size; have := HZW.out; omega⟩, by have := HG.out.lt; omega⟩) (UpdsM.of_cs (UpdCs.one1 ⟨dl, nm, x⟩ RA RC (Sl.more (Sl.below HRX.out HV.out (Nat.le_refl _)) HV.out.size)) HEB.out.sl) (fun u hu => by rw [List.mem_singleton.1 hu]; exact HUK.out) (by simp) (by omega)
          rw [HR1.out] at hap
          refine hap.mono ?_
          rintro e V3 hp
          obtain ⟨mx, c, rfl, hok, hbad, hb⟩ := hp.shape
          have HOKX : Hid (r1.1 = 0 → DbM (fun b => (w.heap.size + 2 ≤ b ∧ b ≠ g7 ∧ b ≠ g9) ∧ b ≠ gb) S V3 (.map mx) r1.2.1) := fun h => (hok h).2
          have HBADX : Hid (r1.1 ≠ 0 → mx = none) := fun h => (hbad h).2
          have HG := Lib.hid (HG.out.up hb)
          have HV := Lib.hid (Below.then HV.out hb HV.out.size)
          clear hok hbad hb hp hap
          go_wp2_with fail
          refine hK.out _ _ (HKP.out V3 HV.out) (fun hHeld => ?_)
          clear hK K
          try simp only [Act.put, List.setIfInBounds_toArray, List.set_cons_succ, List.set_cons_zero]
          refine takeOp (i := 7) (v := ?_) (some 31) rfl rfl (by kernel_rfl) (by kernel_rfl) (by kernel_rfl) (fun _ _ _ h => h) (Or.inl ⟨by rfl, ?_⟩) (by assumption) ?_
          rotate_left 1
          · (intro w0 hSw; (try dsimp only at hSw); go_simp; try (with_reducible rfl))
          try simp only [Act.put, List.setIfInBounds_toArray, List.set_cons_succ, List.set_cons_zero]
          refine takeOp (i := 8) (v := ?_) (some 39) rfl rfl (by kernel_rfl) (by kernel_rfl) (by kernel_rfl) (fun _ _ _ h => h) (Or.inl ⟨by rfl, ?_⟩) (by assumption) ?_
          rotate_left 1
          · (intro w0 hSw; (try dsimp only at hSw); go_simp; try (with_reducible rfl))
          try simp only [Act.put, List.setIfInBounds_toArray, List.set_cons_succ, List.set_cons_zero]
          refine takeOp (i := 9) (v := ?_) (some 40) rfl rfl (by kernel_rfl) (by kernel_rfl) (by kernel_rfl) (fun _ _ _ h => h) (Or.inl ⟨by rfl, ?_⟩) (by assumption) ?_
          rotate_left 1
          · (intro w0 hSw; (try dsimp only at hSw); go_simp; try (with_reducible rfl))
          try simp only [Act.put, List.setIfInBounds_toArray, List.set_cons_succ, List.set_cons_zero]
          refine takeOp (i := 10) (v := ?_) (some 41) rfl rfl (by kernel_rfl) (by kernel_rfl) (by kernel_rfl) (fun _ _ _ h => h) (Or.inl ⟨by rfl, ?_⟩) (by assumption) ?_
          rotate_left 1
          · (intro w0 hSw; (try dsimp only at hSw); go_simp; try (with_reducible rfl))
          try simp only [Act.put, List.setIfInBounds_toArray, List.set_cons_succ, List.set_cons_zero]
          refine wpAnyH_ready (rs := [12]) (by kernel_rfl) (by simp) ?_
          refine (AllReadyH.cons rfl (fun K hK => ?_) AllReadyH.nil)
          have m0 := HG.out.frozen 0
          have m2 := HG.out.lt
          have m3 : V3.cell? ⟨gb, 0, none⟩ = some (.map none) := HG.out.cell 0
          go_simp
          obtain ⟨V4, hV⟩ : ∃ V', V' = V3.setCell ⟨gb, 0, none⟩ (.map mx) := ⟨_, rfl⟩
          rw [← hV]
          have HG : Hid (Row V4 gb 28 [.map mx]) := by show Row _ _ _ _; rw [hV]; exact HG.out.set 0 _
          have HOKX : Hid (r1.1 = 0 → DbM (fun b => (w.heap.size + 2 ≤ b ∧ b ≠ g7 ∧ b ≠ g9) ∧ b ≠ gb) S V4 (.map mx) r1.2.1) := fun h => by rw [hV]; exact (HOKX.out h).keep (Stay.set (fun hp => hp.2 rfl) 0 _)
          have HV : Hid (Below wr.heap.size wr V4) := by show Below _ _ _; rw [hV]; exact HV.out.setCell (p := ⟨gb, 0, none⟩) HGZ.out _
          clear hV m0 m2 m3
          refine hK.out _ _ (HKP.out V4 HV.out) (fun hHeld => ?_)
          clear hK K
          try simp only [Act.put, List.setIfInBounds_toArray, List.set_cons_succ, List.set_cons_zero]
          refine takeOp (i := 13) (v := ?_) (some 12) rfl rfl (by kernel_rfl) (by kernel_rfl) (by kernel_rfl) (fun _ _ _ h => h) (Or.inl ⟨by rfl, ?_⟩) (by assumption) ?_
          rotate_left 1
          · (intro w0 hSw; (try dsimp only at hSw); go_simp; try (with_reducible rfl))
          try simp only [Act.put, List.setIfInBounds_toArray, List.set_cons_succ, List.set_cons_zero]
          refine takeOp (i := 14) (v := ?_) (some 13) rfl rfl (by kernel_rfl) (by kernel_rfl) (by kernel_rfl) (fun _ _ _ h => h) (Or.inl ⟨by rfl, ?_⟩) (by assumption) ?_
          rotate_left 1
          · (intro w0 hSw; (try dsimp only at hSw); go_simp; try (with_reducible rfl))
          try simp only [Act.put, List.setIfInBounds_toArray, List.set_cons_succ, List.set_cons_zero]
          refine wpAnyH_done (by kernel_rfl) ?_ _
          go_wp2_with fail
          go_meet
          case rel => exact ⟨gb, mx, c, rfl, rfl, rfl, HGZ.out, HG.out, fun h => (HOKX.out h).weak fun _ _ hp => hp.1, HBADX.out, HV.out⟩
      case rest =>
      obtain ⟨g11, mx, c, rfl, rfl, rfl, hg11, hr11, hok, hbad, hb8⟩ := hcut
      generalize wc = w8 at *
      have HB8 := Lib.hid hb8
      have HR7 := Lib.hid (HR7.out.up hb8)
      have HR9 := Lib.hid (HR9.out.up hb8)
      have HR11 := Lib.hid hr11
      have HOK := Lib.hid hok
      have HOWN := Lib.hid (own_keep HOWN.out hb8)
      have HDB := Lib.hid (HDB.out.up hb8)
      have HB5R := Lib.hid (HB5R.out.trans (hb8.mono (by have := HZW.out; omega)))
      have hw1 : IntKind.i64.wrap ((k : Int) + 1) = ((k + 1 : Nat) : Int) := by rw [IntWalk.i64_in _ (by omega)]; omega
      clear b0 u0 u1 u2 hub z7 hb8 hr11 hok hbad hg11
      by_cases hz : r1.1 = 0
      rotate_left
      · have hne : (r1.1 == 0) = false := by simpa using hz
        have HMS : Hid (madeF S (us.take (k + 1)) = madeF S (us.take k)) := by
          show _ = _
          rw [HMT.out]
          unfold madeS
          rw [if_neg]
          intro e
          rw [← HF0.out] at e
          have h := HR1.out
          rw [applyF_one, if_pos e] at h
          exact hz (by rw [← h])
        clear hz
        go_wp2_with fail
        go_roundw
        case rel => exact ⟨k + 1, md, l, FA, FC, cs, HKL.out, by go_num, HR7.out, HR9.out, by rw [HMS.out]; exact HL.out, by rw [HMS.out, ← HF0.out]; exact HDB.out, by rw [HMS.out]; exact HCS.out, HOWN.out, by rw [HMS.out]; exact HRW.out, HB5R.out⟩
        case measure => have := HKL.out; simp [intOf]; omega
      have heq : (r1.1 == 0) = true := by simpa using hz
      have HD11 := Lib.hid (HOK.out hz)
      obtain ⟨m11, hm11⟩ := HD11.out.form
      have hm11 : mx = some m11 := by injection hm11
      subst hm11
      have e0 : w8.cell? ⟨g11, 0, none⟩ = some (.map (some m11)) := HR11.out.cell 0
      have e1 := HR11.out.lt
      have e2 := HR7.out.frozen 0
      have e3 := HR7.out.lt
      have e4 : w8.cell? ⟨g7, 0, none⟩ = some (.map (some md)) := HR7.out.cell 0
      go_upto_region 11 with (fail)
      obtain ⟨w9, hw9⟩ : ∃ V, V = w8.setCell ⟨g7, 0, none⟩ (.map (some m11)) := ⟨_, rfl⟩
      rw [← hw9]
      have hne97 : g9 ≠ g7 := by have := HGZ.out; omega
      have HOWN : Hid (w9.ownsRow w.heap.size 85 2 (.slice FA l FC) l cs) := by show World.ownsRow _ _ _ _ _ _ _; rw [hw9]; exact own_far HOWN.out (own_ne_rowF HOWN.out HR7.out (by decide)) _
      have HR7 : Hid (Row w9 g7 28 [.map (some m11)]) := by show Row _ _ _ _; rw [hw9]; exact HR7.out.set 0 _
      have HR9 : Hid (Row w9 g9 31 [.slice SA S.length SC, .slice FA l FC]) := by show Row _ _ _ _; rw [hw9]; exact HR9.out.far (p := ⟨g7, 0, none⟩) hne97 _
      have HD9 : Hid (DbM (fun b => w.heap.size + 2 ≤ b ∧ b ≠ g7 ∧ b ≠ g9) S w9 (.map (some m11)) r1.2.1) := by show DbM _ _ _ _ _; rw [hw9]; exact HD11.out.keep (Stay.set (fun hp => hp.2.1 rfl) 0 _)
      have HB59 : Hid (Below (w.heap.size + 2) W5 w9) := by show Below _ _ _; rw [hw9]; exact HB5R.out.setCell (p := ⟨g7, 0, none⟩) (by show w.heap.size + 2 ≤ g7; have := HGZ.out; omega) _
      have HB9 : Hid (Below w.heap.size w w9) := HB5.out.trans (HB59.out.mono (by omega))
      have HB59Z : Hid (w.heap.size + 2 ≤ w9.heap.size) := by show _ ≤ _; have := HR9.out.lt; have := HGZ.out; omega
      clear hw9 e0 e1 e2 e3 e4 hne97
      have HST : Hid ((stepU S F0 ⟨dl, nm, x⟩).1 = 0 ∧ r1.2.1 = (stepU S F0 ⟨dl, nm, x⟩).2.1) := by
        have h := HR1.out
        rw [applyF_one] at h
        by_cases e : (stepU S F0 ⟨dl, nm, x⟩).1 = 0
        · rw [if_pos e] at h; exact ⟨e, by rw [← h]⟩
        · rw [if_neg e] at h; exact absurd (by rw [← h] at hz; exact hz) e
      obtain ⟨Fs0, hFs0⟩ : ∃ F, F = (madeF S (us.take k)).2 := ⟨_, rfl⟩
      rw [← hFs0] at HL HCS HRW
      have HMS : Hid (madeF S (us.take (k + 1)) = (r1.2.1, (refU Fs0 ⟨dl, nm, x⟩).1)) := by
        show _ = _
        rw [HMT.out, hFs0, HST.out.2]
        unfold madeS
        rw [← HF0.out, if_pos HST.out.1]
      have HFL : Hid (Fs0.length ≤ 1000) := by
        show _ ≤ _
        rw [hFs0]
        have h := (made_rel S (us.take k) (by rw [List.length_take]; omega)).2
        rw [List.length_take] at h
        omega
      have HRA : Hid (refA S Fs0 0 [⟨dl, nm, x⟩] = (0, (refU Fs0 ⟨dl, nm, x⟩).1, 0 + if (refU Fs0 ⟨dl, nm, x⟩).2 = true then 1 else 0)) := refA_one S Fs0 ⟨dl, nm, x⟩ (step_check HST.out.1)
      clear hFs0 hz heq
      obtain ⟨Fs1, hFs1⟩ : ∃ F, F = (refU Fs0 ⟨dl, nm, x⟩).1 := ⟨_, rfl⟩
      have HRW1 : Hid (∀ f ∈ Fs1, f.2.length ≤ 1000000) := by
        show ∀ f ∈ Fs1, _
        rw [hFs1]; exact refU_rows HRW.out HUK.out.2.1
      rw [← hFs1] at HMS HRA
      clear hFs1
      obtain ⟨l1, hl1⟩ : ∃ l, l = Fs1.length := ⟨_, rfl⟩
      have HL1 := Lib.hid hl1
      clear hl1
      have HREF : Hid (∀ V, Below w9.heap.size w9 V → Calls Tryz.prog 33 #[.agg #[.slice SA S.length SC, .slice FA l FC], .slice (some ⟨ub, uo + k * 3, none⟩) 1 (UC - k)] V fun e V' => ∃ (A1 : Option Addr) (C1 m1 : Nat) (cs1 : List Value), e = .returned (.tuple #[.agg #[.slice SA S.length SC, .slice A1 l1 C1], .int .i64 (m1 : Nat), .int .i64 0]) ∧ FctCs w.heap.size w Fs1 cs1 ∧ V'.ownsRow w.heap.size 85 2 (.slice A1 l1 C1) l1 cs1 ∧ Below V.heap.size V V') := fun V hb => by
        have hbw := HB9.out.trans (hb.mono HB9.out.size)
        have hsl : Sl V.heap.size V FA cs := by
          obtain ⟨A', C', e', _, h3⟩ := Sl.of_own_n (own_keep HOWN.out hb)
          injection e' with e1 e2 e3
          subst e1
          exact h3
        have hap := r08Apply_any w.heap.size cs SA SC S FA FC Fs0 (some ⟨ub, uo + k * 3, none⟩) (UC - k) [⟨dl, nm, x⟩] V (HS.out.up hbw) hSl (hbw.size) (HCS.out.lift hbw (Nat.le_refl _)) hsl HFL.out HRW.out (HUU.out.below hbw (Nat.le_refl _)) (by simp) (fun u hu => by rw [List.mem_singleton.1 hu]; exact HUK.out.2)
        rw [← HL.out] at hap
        refine hap.mono ?_
        rintro e V' ⟨-, h2, h3⟩
        rw [HRA.out] at h2
        obtain ⟨A1, C1, cs1, he, hc, ho⟩ := h2 rfl
        rw [← HL1.out] at he ho
        exact ⟨A1, C1, _, cs1, he, hc.back hbw, own_weaken ho hbw.size, h3⟩
      have c90 : w9.cell? ⟨g9, 0, none⟩ = some (.slice SA S.length SC) := HR9.out.cell 0
      have c91 : w9.cell? ⟨g9, 1, none⟩ = some (.slice FA l FC) := HR9.out.cell 1
      have z9 := HR9.out.lt
      have q1 : (0 : Int) ≤ (k : Int) + 1 := by omega
      have q2 : (k : Int) + 1 ≤ (UC : Int) := by have := HKL.out; omega
      have q3 : ¬ UC = k := by have := HKL.out; omega
      refine regionS (S := (fun w' => w'.cell? ⟨g9, 0, none⟩ = some (.slice SA S.length SC) ∧ w'.cell? ⟨g9, 1, none⟩ = some (.slice FA l FC))) [11] (by kernel_rfl) ⟨c90, c91⟩ (fun hHeld => ?_)
      refine takeS (i := 0) (v := ?_) (some 46) rfl rfl (by kernel_rfl) (by decide) (by kernel_rfl) (by kernel_rfl) (by kernel_rfl) (by kernel_rfl) (fun _ _ _ h => h) (Or.inl ⟨by rfl, ?_⟩) (by assumption) ?_
      rotate_left 1
      · (intro w0 hSw; (try dsimp only at hSw); go_simp; try (with_reducible rfl))
      try simp only [Act.put, List.setIfInBounds_toArray, List.set_cons_succ, List.set_cons_zero]
      refine takeS (i := 1) (v := ?_) (some 47) rfl rfl (by kernel_rfl) (by decide) (by kernel_rfl) (by kernel_rfl) (by kernel_rfl) (by kernel_rfl) (fun _ _ _ h => h) (Or.inl ⟨by rfl, ?_⟩) (by assumption) ?_
      rotate_left 1
      · (intro w0 hSw; (try dsimp only at hSw); go_simp; try (with_reducible rfl))
      try simp only [Act.put, List.setIfInBounds_toArray, List.set_cons_succ, List.set_cons_zero]
      refine takeS (i := 2) (v := ?_) (some 48) rfl rfl (by kernel_rfl) (by decide) (by kernel_rfl) (by kernel_rfl) (by kernel_rfl) (by kernel_rfl) (fun _ _ _ h => h) (Or.inl ⟨by rfl, ?_⟩) (by assumption) ?_
      rotate_left 1
      · (intro w0 hSw; (try dsimp only at hSw); go_simp; try (with_reducible rfl))
      try simp only [Act.put, List.setIfInBounds_toArray, List.set_cons_succ, List.set_cons_zero]
      refine takeS (i := 3) (v := ?_) (some 49) rfl rfl (by kernel_rfl) (by decide) (by kernel_rfl) (by kernel_rfl) (by kernel_rfl) (by kernel_rfl) (fun _ _ _ h => h) (Or.inl ⟨by rfl, ?_⟩) (by assumption) ?_
      rotate_left 1
      · (intro w0 hSw; (try dsimp only at hSw); go_simp; try (with_reducible rfl))
      try simp only [Act.put, List.setIfInBounds_toArray, List.set_cons_succ, List.set_cons_zero]
      refine takeS (i := 4) (v := ?_) (some 50) rfl rfl (by kernel_rfl) (by decide) (by kernel_rfl) (by kernel_rfl) (by kernel_rfl) (by kernel_rfl) (fun _ _ _ h => h) (Or.inl ⟨by rfl, ?_⟩) (by assumption) ?_
      rotate_left 1
      · (intro w0 hSw; (try dsimp only at hSw); go_simp; try (with_reducible rfl))
      try simp only [Act.put, List.setIfInBounds_toArray, List.set_cons_succ, List.set_cons_zero]
      refine takeS (i := 5) (v := ?_) (some 51) rfl rfl (by kernel_rfl) (by decide) (by kernel_rfl) (by kernel_rfl) (by kernel_rfl) (by kernel_rfl) (fun _ _ _ h => h) (Or.inl ⟨by rfl, ?_⟩) (by assumption) ?_
      rotate_left 1
      · (intro w0 hSw; (try dsimp only at hSw); go_simp; try (with_reducible rfl))
      try simp only [Act.put, List.setIfInBounds_toArray, List.set_cons_succ, List.set_cons_zero]
      refine oneS (i := 6) (by kernel_rfl) rfl (fun K hK => ?_)
      go_simp
      refine (HREF.out w9.drew (Below.refl _ _).drew).mono ?_
      rintro e V ⟨A1, C1, m1, cs1, rfl, hc1, ho1, hbV⟩
      have hbV : Below w9.heap.size w9 V := Below.undrew hbV
      have HBV := Lib.hid hbV
      have HC1 := Lib.hid hc1
      have HO1 := Lib.hid ho1
      have HR9V := Lib.hid (HR9.out.up hbV)
      have HKK : Hid (V.cell? ⟨g9, 0, none⟩ = some (.slice SA S.length SC) ∧ V.cell? ⟨g9, 1, none⟩ = some (.slice FA l FC)) := ⟨HR9V.out.cell 0, HR9V.out.cell 1⟩
      have m0 := HR9V.out.frozen 0
      have m1 := HR9V.out.frozen 1
      have m2 := HR9V.out.lt
      have m3 : V.cell? ⟨g9, 0, none⟩ = some (.slice SA S.length SC) := HR9V.out.cell 0
      have m4 : V.cell? ⟨g9, 1, none⟩ = some (.slice FA l FC) := HR9V.out.cell 1
      clear hc1 ho1 hbV
      go_wp2_with fail
      refine hK.out _ _ HKK.out (fun hHeld => ?_)
      clear hK K
      try simp only [Act.put, List.setIfInBounds_toArray, List.set_cons_succ, List.set_cons_zero]
      refine takeS (i := 7) (v := ?_) (some 45) rfl rfl (by kernel_rfl) (by decide) (by kernel_rfl) (by kernel_rfl) (by kernel_rfl) (by kernel_rfl) (fun _ _ _ h => h) (Or.inl ⟨by rfl, ?_⟩) (by assumption) ?_
      rotate_left 1
      · (intro w0 hSw; (try dsimp only at hSw); go_simp; try (with_reducible rfl))
      try simp only [Act.put, List.setIfInBounds_toArray, List.set_cons_succ, List.set_cons_zero]
      refine takeS (i := 8) (v := ?_) (some 53) rfl rfl (by kernel_rfl) (by decide) (by kernel_rfl) (by kernel_rfl) (by kernel_rfl) (by kernel_rfl) (fun _ _ _ h => h) (Or.inl ⟨by rfl, ?_⟩) (by assumption) ?_
      rotate_left 1
      · (intro w0 hSw; (try dsimp only at hSw); go_simp; try (with_reducible rfl))
      try simp only [Act.put, List.setIfInBounds_toArray, List.set_cons_succ, List.set_cons_zero]
      refine takeFree (i := 9) (v := ?_) (some 54) rfl rfl (by kernel_rfl) (by kernel_rfl) (by kernel_rfl) (fun _ _ _ h => h) (Or.inl ⟨by rfl, ?_⟩) ?_
      rotate_left 1
      · (intro w0 hSw; (try dsimp only at hSw); go_simp; try (with_reducible rfl))
      try simp only [Act.put, List.setIfInBounds_toArray, List.set_cons_succ, List.set_cons_zero]
      refine takeFree (i := 10) (v := ?_) (some 55) rfl rfl (by kernel_rfl) (by kernel_rfl) (by kernel_rfl) (fun _ _ _ h => h) (Or.inl ⟨by rfl, ?_⟩) ?_
      rotate_left 1
      · (intro w0 hSw; (try dsimp only at hSw); go_simp; try (with_reducible rfl))
      try simp only [Act.put, List.setIfInBounds_toArray, List.set_cons_succ, List.set_cons_zero]
      refine oneL (i := 11) (by kernel_rfl) rfl (by decide) (fun K hK => ?_)
      go_simp
      go_wp2_with fail
      refine hK.out _ _ ?_
      clear hK K
      try simp only [Act.put, List.setIfInBounds_toArray, List.set_cons_succ, List.set_cons_zero]
      refine doneS (by kernel_rfl) ?_ _
      go_wp2_with fail
      obtain ⟨wZ, hwZ⟩ : ∃ W, W = (V.setCell ⟨g9, 0, none⟩ (.slice SA S.length SC)).setCell ⟨g9, 1, none⟩ (.slice A1 l1 C1) := ⟨_, rfl⟩
      rw [← hwZ]
      have hne97 : g7 ≠ g9 := by have := HGZ.out; omega
      have HR7Z : Hid (Row wZ g7 28 [.map (some m11)]) := by show Row _ _ _ _; rw [hwZ]; exact ((HR7.out.up HBV.out).far (p := ⟨g9, 0, none⟩) hne97 _).far (p := ⟨g9, 1, none⟩) hne97 _
      have HR9Z : Hid (Row wZ g9 31 [.slice SA S.length SC, .slice A1 l1 C1]) := by show Row _ _ _ _; rw [hwZ]; exact (HR9V.out.set 0 _).set 1 _
      have HDZ : Hid (DbM (fun b => w.heap.size + 2 ≤ b ∧ b ≠ g7 ∧ b ≠ g9) S wZ (.map (some m11)) r1.2.1) := by show DbM _ _ _ _ _; rw [hwZ]; exact ((HD9.out.up HBV.out).keep (Stay.set (fun hp => hp.2.2 rfl) 0 _)).keep (Stay.set (fun hp => hp.2.2 rfl) 1 _)
      have HOZ : Hid (wZ.ownsRow w.heap.size 85 2 (.slice A1 l1 C1) l1 cs1) := by show World.ownsRow _ _ _ _ _ _ _; rw [hwZ]; exact own_far (own_far HO1.out (own_ne_rowF HO1.out HR9V.out (by decide)) _) (own_ne_rowF HO1.out HR9V.out (by decide)) _
      have HBZ : Hid (Below (w.heap.size + 2) W5 wZ) := by show Below _ _ _; rw [hwZ]; exact ((HB59.out.trans (HBV.out.mono HB59Z.out)).setCell (p := ⟨g9, 0, none⟩) (by show w.heap.size + 2 ≤ g9; have := HGZ.out; omega) _).setCell (p := ⟨g9, 1, none⟩) (by show w.heap.size + 2 ≤ g9; have := HGZ.out; omega) _
      clear hwZ hne97
      go_roundw
      case rel => exact ⟨k + 1, m11, l1, A1, C1, cs1, HKL.out, by go_num, HR7Z.out, HR9Z.out, by rw [HMS.out]; exact HL1.out, by rw [HMS.out]; exact HDZ.out, by rw [HMS.out]; exact HC1.out, HOZ.out, by rw [HMS.out]; exact HRW1.out, HBZ.out⟩
      case measure => have := HKL.out; simp [intOf]; omega
    · obtain rfl : k = us.length := by omega
      rw [List.take_length] at HL HDB HCS
      have hdl : decide ((us.length : Int) < (us.length : Int)) = false := decide_eq_false (by omega)
      have c7 : wr.cell? ⟨g7, 0, none⟩ = some (.map (some md)) := HR7.out.cell 0
      have z7 := HR7.out.lt
      clear hkl
      go_upto_region 12 with (fail)
      have c90 : wr.cell? ⟨g9, 0, none⟩ = some (.slice SA S.length SC) := HR9.out.cell 0
      have c91 : wr.cell? ⟨g9, 1, none⟩ = some (.slice FA l FC) := HR9.out.cell 1
      have z9 := HR9.out.lt
      have p0 : wr.drew.cell? ⟨w.heap.size, 0, none⟩ = some (.map none) := HR4.out.cell 0
      have p1 : wr.drew.frozen? ⟨w.heap.size, 0, none⟩ = false := HR4.out.frozen 0
      have p3 : wr.drew.cell? ⟨w.heap.size + 1, 0, none⟩ = some (.slice none 0 0) := HR5.out.cell 0
      have p4 : wr.drew.cell? ⟨w.heap.size + 1, 1, none⟩ = some (.slice none 0 0) := HR5.out.cell 1
      have p5 : wr.drew.frozen? ⟨w.heap.size + 1, 0, none⟩ = false := HR5.out.frozen 0
      have p6 : wr.drew.frozen? ⟨w.heap.size + 1, 1, none⟩ = false := HR5.out.frozen 1
      have p7 := HR4.out.lt
      have p8 := HR5.out.lt
      have hr5a : Row (wr.setCell ⟨w.heap.size, 0, none⟩ (.map (some md))).drew (w.heap.size + 1) 31 [.slice none 0 0, .slice none 0 0] := (HR5.out.far (p := ⟨w.heap.size, 0, none⟩) (by show w.heap.size + 1 ≠ w.heap.size; omega) _).drew
      have r3 : (wr.setCell ⟨w.heap.size, 0, none⟩ (.map (some md))).drew.cell? ⟨w.heap.size + 1, 0, none⟩ = some (.slice none 0 0) := hr5a.cell 0
      have r4 : (wr.setCell ⟨w.heap.size, 0, none⟩ (.map (some md))).drew.cell? ⟨w.heap.size + 1, 1, none⟩ = some (.slice none 0 0) := hr5a.cell 1
      have r5 : (wr.setCell ⟨w.heap.size, 0, none⟩ (.map (some md))).drew.frozen? ⟨w.heap.size + 1, 0, none⟩ = false := hr5a.frozen 0
      have r6 : (wr.setCell ⟨w.heap.size, 0, none⟩ (.map (some md))).drew.frozen? ⟨w.heap.size + 1, 1, none⟩ = false := hr5a.frozen 1
      have r7 := hr5a.lt
      have hr5b : Row ((wr.setCell ⟨w.heap.size, 0, none⟩ (.map (some md))).setCell ⟨w.heap.size + 1, 0, none⟩ (.slice SA S.length SC)).drew (w.heap.size + 1) 31 [.slice SA S.length SC, .slice none 0 0] := ((HR5.out.far (p := ⟨w.heap.size, 0, none⟩) (by show w.heap.size + 1 ≠ w.heap.size; omega) _).set 0 _).drew
      have r8 : ((wr.setCell ⟨w.heap.size, 0, none⟩ (.map (some md))).setCell ⟨w.heap.size + 1, 0, none⟩ (.slice SA S.length SC)).drew.cell? ⟨w.heap.size + 1, 1, none⟩ = some (.slice none 0 0) := hr5b.cell 1
      have r9 : ((wr.setCell ⟨w.heap.size, 0, none⟩ (.map (some md))).setCell ⟨w.heap.size + 1, 0, none⟩ (.slice SA S.length SC)).drew.frozen? ⟨w.heap.size + 1, 1, none⟩ = false := hr5b.frozen 1
      have r10 := hr5b.lt
      have hne7 : g7 ≠ w.heap.size := by have := HGZ.out; omega
      have hne9 : g9 ≠ w.heap.size := by have := HGZ.out; omega
      have HK7 := Lib.hid (HR7.out.far (p := ⟨w.heap.size, 0, none⟩) hne7 (.map (some md))).drew
      have HK9 := Lib.hid (HR9.out.far (p := ⟨w.heap.size, 0, none⟩) hne9 (.map (some md))).drew
      have KEEP : Hid ((wr.setCell ⟨w.heap.size, 0, none⟩ (.map (some md))).drew.cell? ⟨g7, 0, none⟩ = some (.map (some md)) ∧ (wr.setCell ⟨w.heap.size, 0, none⟩ (.map (some md))).drew.cell? ⟨g9, 0, none⟩ = some (.slice SA S.length SC) ∧ (wr.setCell ⟨w.heap.size, 0, none⟩ (.map (some md))).drew.cell? ⟨g9, 1, none⟩ = some (.slice FA l FC)) := ⟨HK7.out.cell 0, HK9.out.cell 0, HK9.out.cell 1⟩
      clear hne7 hne9
      refine regionS (S := (fun w' => w'.cell? ⟨g7, 0, none⟩ = some (.map (some md)) ∧ w'.cell? ⟨g9, 0, none⟩ = some (.slice SA S.length SC) ∧ w'.cell? ⟨g9, 1, none⟩ = some (.slice FA l FC))) [3, 4] (by kernel_rfl) ⟨c7, c90, c91⟩ (fun hHeld => ?_)
      refine takeS (i := 0) (v := ?_) (some 56) rfl rfl (by kernel_rfl) (by decide) (by kernel_rfl) (by kernel_rfl) (by kernel_rfl) (by kernel_rfl) (fun _ _ _ h => h) (Or.inl ⟨by rfl, ?_⟩) (by assumption) ?_
      rotate_left 1
      · (intro w0 hSw; (try dsimp only at hSw); go_simp; try (with_reducible rfl))
      try simp only [Act.put, List.setIfInBounds_toArray, List.set_cons_succ, List.set_cons_zero]
      refine takeS (i := 1) (v := ?_) (some 57) rfl rfl (by kernel_rfl) (by decide) (by kernel_rfl) (by kernel_rfl) (by kernel_rfl) (by kernel_rfl) (fun _ _ _ h => h) (Or.inl ⟨by rfl, ?_⟩) (by assumption) ?_
      rotate_left 1
      · (intro w0 hSw; (try dsimp only at hSw); go_simp; try (with_reducible rfl))
      try simp only [Act.put, List.setIfInBounds_toArray, List.set_cons_succ, List.set_cons_zero]
      refine oneS (i := 2) (by kernel_rfl) rfl (fun K hK => ?_)
      go_simp
      go_wp2_with fail
      refine hK.out _ _ KEEP.out (fun hHeld => ?_)
      clear hK K
      try simp only [Act.put, List.setIfInBounds_toArray, List.set_cons_succ, List.set_cons_zero]
      refine oneL (i := 3) (by kernel_rfl) rfl (by decide) (fun K hK => ?_)
      go_simp
      go_wp2_with fail
      refine hK.out _ _ ?_
      clear hK K
      try simp only [Act.put, List.setIfInBounds_toArray, List.set_cons_succ, List.set_cons_zero]
      refine oneL (i := 4) (by kernel_rfl) rfl (by decide) (fun K hK => ?_)
      go_simp
      go_wp2_with fail
      refine hK.out _ _ ?_
      clear hK K
      try simp only [Act.put, List.setIfInBounds_toArray, List.set_cons_succ, List.set_cons_zero]
      refine doneS (by kernel_rfl) ?_ _
      clear c7 c90 c91 p0 p1 p3 p4 p5 p6 p7 p8 r3 r4 r5 r6 r7 r8 r9 r10 hr5a hr5b z7 z9
      obtain ⟨W6, hW6⟩ : ∃ V, V = (((wr.setCell ⟨w.heap.size, 0, none⟩ (.map (some md))).setCell ⟨w.heap.size + 1, 0, none⟩ (.slice SA S.length SC)).setCell ⟨w.heap.size + 1, 1, none⟩ (.slice FA l FC)).drew := ⟨_, rfl⟩
      rw [← hW6]
      have HR46 : Hid (Row W6 w.heap.size 28 [.map (some md)]) := by show Row _ _ _ _; rw [hW6]; exact (((HR4.out.set 0 _).far (p := ⟨w.heap.size + 1, 0, none⟩) (by show w.heap.size ≠ w.heap.size + 1; omega) _).far (p := ⟨w.heap.size + 1, 1, none⟩) (by show w.heap.size ≠ w.heap.size + 1; omega) _).drew
      have HR56 : Hid (Row W6 (w.heap.size + 1) 31 [.slice SA S.length SC, .slice FA l FC]) := by show Row _ _ _ _; rw [hW6]; exact (((HR5.out.far (p := ⟨w.heap.size, 0, none⟩) (by show w.heap.size + 1 ≠ w.heap.size; omega) _).set 0 _).set 1 _).drew
      have HB6 : Hid (Below w.heap.size w W6) := by show Below _ _ _; rw [hW6]; exact (((HBR.out.setCell (p := ⟨w.heap.size, 0, none⟩) (Nat.le_refl _) _).setCell (p := ⟨w.heap.size + 1, 0, none⟩) (by show w.heap.size ≤ w.heap.size + 1; omega) _).setCell (p := ⟨w.heap.size + 1, 1, none⟩) (by show w.heap.size ≤ w.heap.size + 1; omega) _).drew
      have HW6 := Lib.hid hW6
      clear hW6
      have d0 : W6.cell? ⟨w.heap.size, 0, none⟩ = some (.map (some md)) := HR46.out.cell 0
      have d1 : W6.cell? ⟨w.heap.size + 1, 0, none⟩ = some (.slice SA S.length SC) := HR56.out.cell 0
      have d2 : W6.cell? ⟨w.heap.size + 1, 1, none⟩ = some (.slice FA l FC) := HR56.out.cell 1
      go_wp2_with fail
      have HD6 : Hid (DbM (fun _ => True) S W6 (.map (some md)) (madeF S us).1) := by
        show DbM _ _ _ _ _
        rw [HW6.out]
        exact DbM.weak ((((HDB.out.keep (Stay.set (fun h => by have := h.1; omega) 0 _)).keep (Stay.set (fun h => by have := h.1; omega) 0 _)).keep (Stay.set (fun h => by have := h.1; omega) 1 _)).up (Ext.refl _).drew.below) fun _ _ _ => trivial
      have HO6 : Hid (W6.ownsRow w.heap.size 85 2 (.slice FA l FC) l cs) := by
        show World.ownsRow _ _ _ _ _ _ _
        rw [HW6.out]
        exact own_keep (own_far (own_far (own_far HOWN.out (own_ne_rowF HOWN.out HR4.out (by decide)) _) (own_ne_rowF HOWN.out HR5.out (by decide)) _) (own_ne_rowF HOWN.out HR5.out (by decide)) _) (Ext.refl _).drew.below
      refine bodyPost_ret (v := .tuple #[.agg #[.map (some md)], .agg #[.slice SA S.length SC, .slice FA l FC], .bool true]) (by simp [results, Tryz.results12, go_sem, d0, d1, d2]) rfl ⟨fun h => absurd HE.out h, fun _ => ⟨md, FA, FC, cs, by rw [← HL.out], HD6.out, HCS.out, by rw [← HL.out]; exact HO6.out⟩, HB6.out⟩
end
section
open Go.RowKit Go.Sort Go.ChangeMaps Go.WideShapes

theorem kindsF_mem {S : Sch} {nm : ByteArray} (h : nm ∈ S.map Prod.fst) : (nm, kindsF S nm) ∈ S := by
  unfold kindsF
  split
  · rename_i hf
    obtain ⟨p, hp, e⟩ := List.mem_map.1 h
    have := List.find?_eq_none.1 hf p hp
    simp [e] at this
  · rename_i p hf
    have hp := List.mem_of_find?_eq_some hf
    have he : p.1 = nm := by have := List.find?_some hf; simpa using this
    rw [← he]
    exact hp
theorem kindsF_of {S : Sch} (hnd : (S.map Prod.fst).Nodup) {nm : ByteArray} {ks : List Int} (h : (nm, ks) ∈ S) : kindsF S nm = ks := by
  have h2 := kindsF_mem (S := S) (nm := nm) (List.mem_map.2 ⟨_, h, rfl⟩)
  rw [List.nodup_iff_pairwise_ne, List.pairwise_map] at hnd
  have h3 : ∀ (l : Sch), l.Pairwise (fun a b => a.1 ≠ b.1) → ∀ a ∈ l, ∀ b ∈ l, a.1 = b.1 → a = b := fun l hl => by
    induction l with
    | nil => intro a ha; cases ha
    | cons c l ih =>
      rw [List.pairwise_cons] at hl
      intro a ha b hb e
      rcases List.mem_cons.1 ha with h1 | h1
      · rcases List.mem_cons.1 hb with h2 | h2
        · rw [h1, h2]
        · rw [h1] at e; exact absurd e (hl.1 b h2)
      · rcases List.mem_cons.1 hb with h2 | h2
        · rw [h2] at e; exact absurd e.symm (hl.1 a h1)
        · exact ih hl.2 a h1 b h2 e
  have h4 := h3 S hnd _ h2 _ h rfl
  injection h4
def schsF (S : Sch) (ns : List ByteArray) : Sch := ns.map fun nm => (nm, kindsF S nm)
section
variable {P : Nat → Prop} {R n : Nat} {w w' : World} {X : Sch}
end
theorem makeSchs (n : Nat) (hn : n ≤ 1000000) : ∃ cs : List Value, cs.length = n * 2 ∧ ∀ w : World, (Instr.makeSlice 22 (.int .i64 (n : Int)) (.int .i64 (n : Int))).run Tryz.prog w = .ok (.slice (some ⟨w.heap.size, 0, none⟩) n n) (w.alloc (.cells cs.toArray 62)) := by
  obtain ⟨i0, hi0, hz0, hz1, hz2⟩ := info_parts schInfo
  refine ⟨(madeCells (Value.agg #[.string ⟨#[]⟩, .slice none 0 0]).cells (n * 2)).toList, by simp [madeCells], fun w => ?_⟩
  have := run_make (P := Tryz.prog) w 22 62 i0 _ Tryz.underlying22 hi0 hz0 .i64 .i64 n n (by omega) (by omega) (by rw [hz2]; omega) (by omega)
  rw [this, hz1]
  simp
end
section
open Go.RowKit

def FNames (S : Sch) (Fs : List Fact) : Prop := ∀ f ∈ Fs, f.1 ∈ S.map Prod.fst
theorem RelF.count {F : Cont} {Fs : List Fact} (h : RelF F Fs) (nm : ByteArray) : (F nm).length = Fs.countP (fun f => decide (f.1 = nm)) := by
  rw [List.countP_eq_length_filter]
  have hn : (F nm).Nodup := RL.SS.nodup (h.2.1 nm)
  have hp : ((F nm).map fun x => ((nm, x) : Fact)).Perm (Fs.filter fun f => decide (f.1 = nm)) := by
    refine (List.perm_ext_iff_of_nodup (List.Pairwise.map _ (fun a b hab e => hab (by injection e)) hn) (h.1.filter _)).2 fun f => ?_
    rw [List.mem_map, List.mem_filter, decide_eq_true_eq]
    constructor
    · rintro ⟨x, hx, rfl⟩
      exact ⟨(h.2.2 nm x).1 hx, rfl⟩
    · rintro ⟨h1, h2⟩
      obtain ⟨a, b⟩ := f
      have h2 : a = nm := h2
      subst h2
      exact ⟨b, (h.2.2 a b).2 h1, rfl⟩
  have := hp.length_eq
  rw [List.length_map] at this
  exact this
theorem countP_split {α : Type} (p q r : α → Bool) (hr : ∀ a, r a = (p a || q a)) (hd : ∀ a, p a = true → q a = false) : ∀ l : List α, l.countP r = l.countP p + l.countP q
  | [] => rfl
  | a :: l => by
    rw [List.countP_cons, List.countP_cons, List.countP_cons, countP_split p q r hr hd l, hr a]
    cases hp : p a with
    | true => rw [hd a hp]; simp; omega
    | false => simp; omega
theorem sum_count {F : Cont} {Fs : List Fact} (h : RelF F Fs) : ∀ S : Sch, (S.map Prod.fst).Nodup → sumL S F (fun _ => true) = Fs.countP (fun f => memB f.1 (S.map Prod.fst))
  | [], _ => by
    show 0 = _
    rw [List.countP_eq_zero.2]
    intro f _ e
    cases e
  | q :: t, hn => by
    rw [List.map_cons, List.nodup_cons] at hn
    show (if true = true then (F q.1).length else 0) + sumL t F (fun _ => true) = _
    rw [if_pos rfl, sum_count h t hn.2, h.count]
    refine (countP_split _ _ _ (fun f => ?_) (fun f hf => ?_) Fs).symm
    · rw [List.map_cons]
      rcases Bool.eq_false_or_eq_true (memB f.1 (q.1 :: t.map Prod.fst)) with e | e
      · rw [e]
        rcases List.mem_cons.1 (memB_iff.1 e) with h1 | h1
        · rw [decide_eq_true h1]; rfl
        · rw [memB_iff.2 h1, Bool.or_true]
      · rw [e]
        have h1 : f.1 ∉ q.1 :: t.map Prod.fst := fun h2 => by rw [memB_iff.2 h2] at e; cases e
        rw [decide_eq_false (fun h2 => h1 (by rw [h2]; exact List.mem_cons_self))]
        cases h3 : memB f.1 (t.map Prod.fst) with
        | false => rfl
        | true => exact absurd (List.mem_cons_of_mem _ (memB_iff.1 h3)) h1
    · have h1 : f.1 = q.1 := of_decide_eq_true hf
      cases h3 : memB f.1 (t.map Prod.fst) with
      | false => rfl
      | true => rw [h1] at h3; exact absurd (memB_iff.1 h3) hn.1
theorem RelF.rows {S : Sch} {F : Cont} {Fs : List Fact} (h : RelF F Fs) (hn : FNames S Fs) (hnd : (S.map Prod.fst).Nodup) : rowsF S F = Fs.length := by
  unfold rowsF
  rw [sum_count h S hnd, List.countP_eq_length]
  exact fun f hf => memB_iff.2 (hn f hf)
theorem FNames.step {S : Sch} {Fs : List Fact} (h : FNames S Fs) {u : Upd} (hc : checkF S u.rel u.row = 0) : FNames S (refU Fs u).1 := by
  unfold refU
  split
  · split
    · exact fun f hf => h f (List.mem_filter.1 hf).1
    · intro f hf
      rcases List.mem_append.1 hf with hf | hf
      · exact h f hf
      · rw [List.mem_singleton.1 hf]
        obtain ⟨ks, hks, -⟩ := checkF_zero hc
        exact List.mem_map.2 ⟨_, hks, rfl⟩
  · exact h
theorem foldl_names (S : Sch) : ∀ (us : List Upd) (d : Cont × List Fact), FNames S d.2 → FNames S (us.foldl (madeS S) d).2
  | [], d, h => h
  | u :: us, d, h => by
    refine foldl_names S us _ ?_
    unfold madeS
    split
    · rename_i hs
      exact h.step (step_check hs)
    · exact h
theorem made_names (S : Sch) (us : List Upd) : FNames S (madeF S us).2 := foldl_names S us (fun _ => [], []) fun f hf => (by cases hf)
theorem foldl_rows (S : Sch) (n : Nat) : ∀ (us : List Upd) (d : Cont × List Fact), (∀ u ∈ us, u.row.length ≤ n) → (∀ f ∈ d.2, f.2.length ≤ n) → ∀ f ∈ (us.foldl (madeS S) d).2, f.2.length ≤ n
  | [], d, _, h => h
  | u :: us, d, hu, h => by
    refine foldl_rows S n us _ (fun v hv => hu v (List.mem_cons_of_mem _ hv)) ?_
    unfold madeS
    split
    · exact refU_rows h (hu u List.mem_cons_self)
    · exact h
theorem made_rows (S : Sch) (n : Nat) (us : List Upd) (hu : ∀ u ∈ us, u.row.length ≤ n) : ∀ f ∈ (madeF S us).2, f.2.length ≤ n := foldl_rows S n us (fun _ => [], []) hu fun f hf => (by cases hf)
theorem nameF_size {s : ByteArray} (h : nameF s = true) : s.size ≤ 16 := by
  unfold nameF at h
  simp only [Bool.and_eq_true, decide_eq_true_eq] at h
  omega
end
end Go.Proofs.YtdadchpiibipoaaGreatDoor
section
namespace Go.Proofs
open Go.RowKit Go.Maps Go.Sort Go.Shelf

set_option maxHeartbeats 2000000 in
theorem YtdadchpiibipoaaGreatDoor.names0 (w : World) : Calls Tryz.prog 45 #[.agg #[.map none]] w fun e w' => e = .returned (.slice none 0 0) ∧ Below w.heap.size w w' := by
  refine (callsIn_wide (n := 6)).1 ?_
  obtain ⟨W0, hW0⟩ : ∃ W0, W0 = w.alloc (.cells #[.map none] 28) := ⟨_, rfl⟩
  have hb0 : Below w.heap.size w W0 := by rw [hW0]; exact (Below.refl _ w).alloc (Nat.le_refl _) _
  have hseq : SeqGives Fence.wide 2 Tryz.prog 102 #[.pointer (some ⟨W0.heap.size, 0, none⟩)] encStr (fun ss : List (List UInt8) => ss = []) 0 (W0.alloc (.cells #[.map none] 26)) :=
    AnyZ.keys_gives_nil (ρ := YtdadchpiibipoaaGreatDoor.keysN_ren) { YtdadchpiibipoaaGreatDoor.keysN with } Fence.wide _ trivial rfl W0.heap.size _ (by simp) (by simp)
  have cK : ∀ mb W, CallsIn Fence.wide 5 Tryz.prog 77 #[.map mb] W fun e w' => e = .returned (.func (.func 102) #[] #[.pointer (some ⟨W.heap.size, 0, none⟩)]) ∧ w' = W.alloc (.cells #[.map mb] 26) := fun mb W => AnyZ.keys_in YtdadchpiibipoaaGreatDoor.keysN Fence.wide 5 trivial rfl mb W
  have cS := AnyZ.sorted_in YtdadchpiibipoaaGreatDoor.sortedN Fence.wide 5 trivial trivial trivial trivial rfl (by omega) (YtdadchpiibipoaaGreatDoor.sortsN _) (enters_of Tryz.func101 (by kernel_rfl) rfl) 102 #[.pointer (some ⟨W0.heap.size, 0, none⟩)] trivial (enters_of Tryz.func102 (by kernel_rfl) rfl) _ _ (by simp [maxLen]) (by simp) _ hseq
  change CallsIn _ _ Tryz.prog 76 _ _ _ at cS
  have HW0 := Lib.hid hW0
  clear hW0
  have hfK : Fence.wide.fn 77 := trivial
  have hfS : Fence.wide.fn 76 := trivial
  refine callsIn_of_wp Tryz.func45 rfl trivial ?_ rfl
  simp only [Tryz.ntmps45, List.size_toArray, List.length_cons, List.length_nil, Nat.reduceAdd, Nat.reduceSub, Array.replicate_succ, Array.replicate_zero, List.push_toArray, List.append_toArray, List.nil_append, List.cons_append]
  gi_wp2_with (first
    | (gi_at_call 77; rw [← HW0.out]; refine (cK _ _).mono ?_; rintro e w' ⟨rfl, rfl⟩)
    | (gi_at_call 76; go_loud (refine cS.mono ?_); rintro e w' ⟨v, ss, rfl, hS, hrow, hnil, hb⟩))
  go_ret
  exact ⟨by rw [hnil.2 hS]; first | done | rfl, (hb0.trans ((Below.refl _ W0).alloc (Nat.le_refl _) _ |>.mono hb0.size)).trans (hb.mono (by have := hb0.size; simp; omega))⟩
end Go.Proofs
namespace Go.Proofs.YtdadchpiibipoaaGreatDoor
open Go.RowKit Go.Sort Go.ChangeMaps Go.WideShapes

set_option maxHeartbeats 2000000 in
theorem ctSchemas_nil (w : World) : Calls Tryz.prog 31 #[.agg #[.map none]] w fun e w' => (∃ A C, e = .returned (.slice A 0 C)) ∧ Below w.heap.size w w' := by
  obtain ⟨W0, hW0⟩ : ∃ W, W = w.alloc (.cells #[.map none] 28) := ⟨_, rfl⟩
  have HB0 : Hid (Below w.heap.size w W0) := by show Below _ _ _; rw [hW0]; exact ((Ext.refl w).alloc _).below
  have HN := Lib.hid (names0 W0)
  have c0 : W0.cell? ⟨w.heap.size, 0, none⟩ = some (.map none) := by rw [hW0]; simp
  have z0 : w.heap.size < W0.heap.size := by rw [hW0]; simp
  obtain ⟨cs, hcl, hmk0⟩ := makeSchs 0 (by omega)
  have hmk : ∀ w : World, (Instr.makeSlice 22 (.int .i64 0) (.int .i64 0)).run Tryz.prog w = .ok (.slice (some ⟨w.heap.size, 0, none⟩) 0 0) (w.alloc (.cells cs.toArray 62)) := hmk0
  clear hmk0 hcl
  go_enter Tryz.func31, Tryz.ntmps31
  go_upto_region 1 with (fail)
  rw [← hW0]
  clear hW0
  go_wp2_with fail
  refine HN.out.mono ?_
  rintro e w1 ⟨rfl, hb1⟩
  have HB1 := Lib.hid (HB0.out.trans (hb1.mono HB0.out.size))
  have HB2 : Hid (Below w.heap.size w (w1.alloc (.cells cs.toArray 62))) := HB1.out.alloc HB1.out.size _
  clear hb1 HN
  go_wp2_with fail
  refine wp_loop_rounds 1 ?_
  rw [rounds_succ]
  go_wp2_with fail
  go_ret
  exact ⟨⟨_, _, rfl⟩, HB2.out⟩

set_option maxHeartbeats 2000000 in
theorem ctText_nil (w : World) : Calls Tryz.prog 17 #[.agg #[.map none]] w fun e w' => e = .returned (.string (toB [])) ∧ Below w.heap.size w w' := by
  obtain ⟨W0, hW0⟩ : ∃ W0, W0 = w.alloc (.cells #[.map none] 28) := ⟨_, rfl⟩
  obtain ⟨W1, hW1⟩ : ∃ W1, W1 = W0.alloc (.cells #[.pointer none, .slice none 0 0] 89) := ⟨_, rfl⟩
  have hb0 : Below w.heap.size w W0 := by rw [hW0]; exact ((Ext.refl w).alloc _).below
  have hb1 : Below W0.heap.size W0 W1 := by rw [hW1]; exact ((Ext.refl W0).alloc _).below
  have hz0 : W0.heap.size = w.heap.size + 1 := by rw [hW0]; simp
  have hz1 : W1.heap.size = W0.heap.size + 1 := by rw [hW1]; simp
  have hB1 : BldP W1 W0.heap.size W0.heap.size (fun k => k < W0.heap.size) [] := by rw [hW1]; exact BldP.new W0
  have hbox : W0.cell? ⟨w.heap.size, 0, none⟩ = some (.map none) := by rw [hW0]; simp
  have c0 : W1.cell? ⟨w.heap.size, 0, none⟩ = some (.map none) := (hb1.cell (p := ⟨w.heap.size, 0, none⟩) (by show w.heap.size < _; omega)).trans hbox
  have z0 : w.heap.size < W1.heap.size := by omega
  have HN := Lib.hid (names0 W1)
  have HB1 := Lib.hid hB1
  have HBE := Lib.hid (hb0.trans (hb1.mono (by omega)))
  have HZ0 : Hid (W0.heap.size = w.heap.size + 1) := hz0
  clear hb0 hb1 hB1 hbox hz0 hz1
  go_enter Tryz.func17, Tryz.ntmps17
  go_upto_region 1 with (fail)
  rw [← hW0]
  clear hW0
  go_upto_region 2 with (fail)
  rw [← hW1]
  clear hW1
  go_upto_region 3 with (go_at_call 45; refine HN.out.mono ?_; rintro e w2 ⟨rfl, hb2⟩)
  have HB2 := Lib.hid (HB1.out.up hb2)
  have HBW2 := Lib.hid (HBE.out.trans (hb2.mono HBE.out.size))
  have HZ2 : Hid (W0.heap.size ≤ w2.heap.size) := by show _ ≤ _; have := HBW2.out.size; have h := HB2.out.bld; have := hb2.size; have := HZ0.out; omega
  clear hb2
  refine wp_loop_rounds 1 ?_
  rw [rounds_succ]
  have hrew : W0.heap.size = w.heap.size + 1 := HZ0.out
  go_wp2_with (go_at_call 44; rw [← hrew]; refine (bString_any HB2.out.bld HZ2.out).mono ?_; rintro e w4 ⟨rfl, hz4⟩)
  go_ret
  exact ⟨rfl, HBW2.out.trans (hz4.mono (by have := HZ0.out; omega))⟩

set_option maxHeartbeats 2000000 in
theorem ctEqualFunc_nil {P' : Nat → Prop} {m' : Value} {G : Cont} (w : World) (hd' : DbM P' [] w m' G) :
    Calls Tryz.prog 51 #[.map none, m', .func (.func 52) #[] #[]] w fun e w' => e = .returned (.bool true) ∧ Below w.heap.size w w' := by
  obtain ⟨b', D', rfl, -, hown', hent'⟩ := hd'.ents
  have hl2 := fun ty => hown'.len Tryz.underlying26 ty
  rw [hent'.1] at hl2
  have hrg := run_range_nilMap (P := Tryz.prog) w 26 9 99 Tryz.underlying26
  have hnx : ∀ ty, (Instr.next (.pointer (some ⟨w.heap.size, 0, none⟩)) false ty).run Tryz.prog (w.alloc (.mapIter none 0 #[] 0)) = _ := fun ty => run_next_nilMap w ty 0 0 #[]
  have HB : Hid (Below w.heap.size w (w.alloc (.mapIter none 0 #[] 0))) := (Below.refl _ w).alloc (Nat.le_refl _) _
  clear hd' hown' hent'
  go_enter Tryz.func51, Tryz.ntmps51
  go_wp2_with fail
  refine wp_loop_rounds 1 ?_
  rw [rounds_succ]
  go_wp2_with fail
  go_ret
  exact ⟨rfl, HB.out⟩
theorem ctEqual_nil {P' : Nat → Prop} {m' : Value} {G : Cont} (w : World) (hd' : DbM P' [] w m' G) :
    Calls Tryz.prog 20 #[.agg #[.map none], .agg #[m']] w fun e w' => e = .returned (.bool true) ∧ Below w.heap.size w w' := by
  obtain ⟨b', rfl⟩ := hd'.form
  have HC := Lib.hid (fun V (hb : Below w.heap.size w V) => ctEqualFunc_nil V (hd'.up hb))
  have hx := (((Ext.refl w).alloc (.cells #[.map none] 28)).alloc (.cells #[.map (some b')] 28)).below
  have HX := Lib.hid hx
  clear hd' hx
  go_enter Tryz.func20, Tryz.ntmps20
  go_wp2_with fail
  refine (HC.out _ HX.out).mono ?_
  rintro e w1 ⟨rfl, hb⟩
  have HB := Lib.hid (Below.then HX.out hb HX.out.size)
  clear hb HC
  go_wp2_with fail
  go_ret
  exact ⟨rfl, HB.out⟩
end Go.Proofs.YtdadchpiibipoaaGreatDoor
end
namespace Go.Proofs.YtdadchpiibipoaaGreatDoor
section
open Go.RowKit Go.Sort Go.ChangeMaps Go.WideShapes

theorem made_contOk (S : Sch) (us : List Upd) : ContOk S (madeF S us).1 := by
  have key : ∀ (us : List Upd) (d : Cont × List Fact), ContOk S d.1 → ContOk S (us.foldl (madeS S) d).1 := fun us => by
    induction us with
    | nil => exact fun d h => h
    | cons u us ih =>
      intro d h
      refine ih _ ?_
      unfold madeS
      split
      · exact h.step u
      · exact h
  exact key us (fun _ => [], []) ContOk.zero
theorem made_vals (S : Sch) (Q : RL.V → Prop) (us : List Upd) (hu : ∀ u ∈ us, ∀ v ∈ u.row, Q v) : ∀ f ∈ (madeF S us).2, ∀ v ∈ f.2, Q v := by
  have key : ∀ (us : List Upd) (d : Cont × List Fact), (∀ u ∈ us, ∀ v ∈ u.row, Q v) → (∀ f ∈ d.2, ∀ v ∈ f.2, Q v) → ∀ f ∈ (us.foldl (madeS S) d).2, ∀ v ∈ f.2, Q v := fun us => by
    induction us with
    | nil => exact fun d _ h => h
    | cons u us ih =>
      intro d hu h
      refine ih _ (fun v hv => hu v (List.mem_cons_of_mem _ hv)) ?_
      unfold madeS
      split
      · unfold refU
        split
        · split
          · exact fun f hf => h f (List.mem_filter.1 hf).1
          · intro f hf
            rcases List.mem_append.1 hf with hf | hf
            · exact h f hf
            · rw [List.mem_singleton.1 hf]; exact hu u List.mem_cons_self
        · exact h
      · exact h
  exact key us (fun _ => [], []) hu fun f hf => (by cases hf)
theorem checkE_len {ks : List Int} {x : RL.R} (h : checkE ks x = 0) : x.length = ks.length := by
  unfold checkE at h
  split at h
  · cases h
  · rename_i h1; simpa using h1
theorem made_fit {S : Sch} (hE : errS S = 0) {F : Cont} {Fs : List Fact} (hc : ContOk S F) (hr : RelF F Fs) (hv : ∀ f ∈ Fs, ∀ v ∈ f.2, VFit v) : RowsFit S F := fun p hp => by
  obtain ⟨-, hnd, hm⟩ := errS_mem hE
  obtain ⟨-, h2, h3⟩ := hc p hp
  refine ⟨(hm p hp).2.1, h2, fun x hx => ⟨?_, fun v hvx => hv _ ((hr.2.2 p.1 x).1 hx) v hvx⟩⟩
  have h4 := h3 x hx
  rw [checkF_at hnd hp] at h4
  rw [checkE_len h4]
  exact (hm p hp).2.1
end
section
open Go.RowKit

theorem textL_app (S T : Sch) (F : Cont) : textL (S ++ T) F = textL S F ++ textL T F := List.flatMap_append
theorem textL_one (p : ByteArray × List Int) (F : Cont) : textL [p] F = textRel p.1 p.2 (F p.1) := by unfold textL; simp
theorem textL_congr {S : Sch} {F G : Cont} (h : ∀ p ∈ S, F p.1 = G p.1) : textL S F = textL S G := by
  unfold textL
  rw [List.flatMap_def, List.flatMap_def, List.map_congr_left]
  intro p hp
  rw [h p hp]
theorem rowsW_app (X Y : List RL.R) : rowsW (X ++ Y) = rowsW X ++ rowsW Y := List.flatMap_append
theorem textRel_snoc (nm : ByteArray) (ks : List Int) (X : List RL.R) (x : RL.R) : textRel nm ks (X ++ [x]) = textRel nm ks X ++ (textR x ++ [10]) := by
  rw [textRel_eq, textRel_eq, rowsW_app]
  have : rowsW [x] = textR x ++ [10] := by simp [rowsW]
  rw [this]
  simp [List.append_assoc]
theorem textL_last {S0 : Sch} {p : ByteArray × List Int} {F : Cont} {X : List RL.R} (hnd : ((S0 ++ [p]).map Prod.fst).Nodup) : textL (S0 ++ [p]) (updC F p.1 X) = textL S0 F ++ textRel p.1 p.2 X := by
  rw [textL_app, textL_one, updC_self]
  congr 1
  refine textL_congr fun q hq => updC_ne F X fun e => ?_
  rw [List.map_append, List.nodup_append] at hnd
  exact hnd.2.2 q.1 (List.mem_map.2 ⟨q, hq, rfl⟩) p.1 (by simp) e
theorem row_back {r : Rd} {text : List UInt8} (ok : RdOk r) (hS : r.S ≠ []) (h : (rowRd r text).1 = 0) : textL (rowRd r text).2.S (closeRd (rowRd r text).2).F = textL r.S (closeRd r).F ++ (text ++ [10]) := by
  obtain ⟨x, S0, p, h1, h2, h3, h4, h5, h6⟩ := rowRd_ok ok hS h
  have hnd := (errS_mem ok.err).2.1
  rw [h2] at hnd
  rw [h6]
  have e1 := closeRd_some (r := r) (p := p) (by rw [h2]; simp)
  have e2 := closeRd_some (r := { r with X := r.X ++ [x] }) (p := p) (by show r.S.getLast? = _; rw [h2]; simp)
  rw [e1, e2]
  show textL r.S (updC r.F p.1 (r.X ++ [x])) = textL r.S (updC r.F p.1 r.X) ++ _
  rw [h2, textL_last hnd, textL_last hnd, textRel_snoc, (parseR_conv h1).1, List.append_assoc]
theorem rel_back {r : Rd} {text : List UInt8} (ok : RdOk r) (h : (relRd r text).1 = 0) : textL (relRd r text).2.S (closeRd (relRd r text).2).F = textL r.S (closeRd r).F ++ ((relW ++ text) ++ [10]) := by
  obtain ⟨nm, ks, h1, h2, h3, h4, h5⟩ := relRd_ok h
  have hnd := (errS_mem h3).2.1
  have hX : (closeRd r).X = [] := by
    cases hl : r.S.getLast? with
    | none => have := List.getLast?_eq_none_iff.1 hl; rw [closeRd_none this]; exact ok.none this
    | some p => rw [closeRd_some hl]
  rw [h5]
  have e2 := closeRd_some (r := { closeRd r with S := r.S ++ [(nm, ks)] }) (p := (nm, ks)) (by show (r.S ++ [(nm, ks)]).getLast? = _; simp)
  rw [e2]
  show textL (r.S ++ [(nm, ks)]) (updC (closeRd r).F nm (closeRd r).X) = _
  rw [hX, textL_last hnd, h1, textRel_eq]
  simp [rowsW]
theorem textL_line (r : Rd) (n : Nat) : textL r.S (closeRd { r with line := n }).F = textL r.S (closeRd r).F := by
  have : (closeRd { r with line := n }).F = (closeRd r).F := by
    unfold closeRd
    show (match r.S.getLast? with | none => _ | some q => _ : Rd).F = _
    cases r.S.getLast? <;> rfl
  rw [this]
theorem line_back {r : Rd} {l : List UInt8} (ok : RdOk r) (h : (lineRd r l true).1 = 0) : textL (lineRd r l true).2.S (closeRd (lineRd r l true).2).F = textL r.S (closeRd r).F ++ (l ++ [10]) := by
  by_cases h1 : (true && Lib.hasPrefix l relW) = true
  · have e : lineRd r l true = relRd { r with line := r.line + 1 } (l.drop 9) := by unfold lineRd; rw [if_pos h1]
    rw [e] at h ⊢
    rw [rel_back (ok.inc (r.line + 1)) h]
    have e2 := hp_rel_conv (l := l) (by simpa using h1)
    rw [← e2]
    show textL r.S (closeRd { r with line := r.line + 1 }).F ++ _ = _
    rw [textL_line]
  · by_cases h2 : (true && Lib.hasPrefix l [40] && !r.S.isEmpty) = true
    · have e : lineRd r l true = rowRd { r with line := r.line + 1 } l := by unfold lineRd; rw [if_neg h1, if_pos h2]
      rw [e] at h ⊢
      have hS : r.S ≠ [] := fun e => by rw [e] at h2; simp at h2
      rw [row_back (ok.inc (r.line + 1)) hS h]
      show textL r.S (closeRd { r with line := r.line + 1 }).F ++ _ = _
      rw [textL_line]
    · have e : lineRd r l true = (15, { r with line := r.line + 1 }) := by unfold lineRd; rw [if_neg h1, if_neg h2]
      rw [e] at h
      cases h
theorem line_none (r : Rd) (l : List UInt8) : lineRd r l false = (15, { r with line := r.line + 1 }) := by
  unfold lineRd
  rw [if_neg (by simp), if_neg (by simp)]
theorem go_back : ∀ (f : Nat) (r : Rd) (s : List UInt8), RdOk r → (parseGo f r s).1 = 0 → textL (parseGo f r s).2.S (parseGo f r s).2.F = textL r.S (closeRd r).F ++ s ∧ RdOk (parseGo f r s).2
  | 0, r, s, _, h => by cases h
  | f + 1, r, s, ok, h => by
    by_cases hs : s = []
    · have e : parseGo (f + 1) r s = (0, closeRd r) := by unfold parseGo; rw [if_pos hs]
      rw [e, hs]
      refine ⟨?_, ok.close⟩
      show textL (closeRd r).S (closeRd r).F = _
      rw [closeRd_S, List.append_nil]
    · rcases cut_conv (s := s) with ⟨l, t, e, hl, hc⟩ | ⟨hl, hc⟩
      · subst e
        rw [go_line f r l t hl] at h ⊢
        by_cases h1 : (lineRd r l true).1 = 0
        · rw [if_pos h1] at h ⊢
          obtain ⟨i1, i2⟩ := go_back f _ t (ok.line h1) h
          refine ⟨?_, i2⟩
          rw [i1, line_back ok h1]
          simp [List.append_assoc]
        · rw [if_neg h1] at h
          exact absurd h h1
      · have e : parseGo (f + 1) r s = (15, { r with line := r.line + 1 }) := by
          unfold parseGo
          rw [if_neg hs, hc]
          show (if (lineRd r s false).1 = 0 then _ else lineRd r s false) = _
          rw [line_none, if_neg (show ¬ ((15 : Int) = 0) by decide)]
        rw [e] at h
        cases h
theorem parseD_back {s : List UInt8} (h : (parseD s).1 = 0) : textL (parseD s).2.S (parseD s).2.F = s ∧ RdOk (parseD s).2 := by
  unfold parseD at h ⊢
  by_cases hl : 65536 < s.length
  · rw [if_pos hl] at h; cases h
  · rw [if_neg hl] at h ⊢
    obtain ⟨h1, h2⟩ := go_back _ _ _ RdOk.zero h
    refine ⟨?_, h2⟩
    rw [h1]
    show [] ++ s = s
    rfl
theorem go_lines : ∀ (f : Nat) (r : Rd) (s : List UInt8), s.length < f → (parseGo f r s).1 ≠ 0 → r.line + 1 ≤ (parseGo f r s).2.line ∧ (parseGo f r s).2.line ≤ r.line + s.count 10 + 1
  | 0, r, s, hf, _ => absurd hf (Nat.not_lt_zero _)
  | f + 1, r, s, hf, h => by
    by_cases hs : s = []
    · have e : parseGo (f + 1) r s = (0, closeRd r) := by unfold parseGo; rw [if_pos hs]
      rw [e] at h
      exact absurd rfl h
    · rcases cut_conv (s := s) with ⟨l, t, e, hl, hc⟩ | ⟨hl, hc⟩
      · subst e
        have hcnt : (l ++ 10 :: t).count 10 = t.count 10 + 1 := by
          rw [List.count_append, List.count_cons_self, List.count_eq_zero.2 hl]; omega
        rw [go_line f r l t hl] at h ⊢
        by_cases h1 : (lineRd r l true).1 = 0
        · rw [if_pos h1] at h ⊢
          obtain ⟨i1, i2⟩ := go_lines f _ t (by simp at hf; omega) h
          rw [lineRd_line] at i1 i2
          rw [hcnt]
          omega
        · rw [if_neg h1, lineRd_line, hcnt]
          omega
      · have e : parseGo (f + 1) r s = (15, { r with line := r.line + 1 }) := by
          unfold parseGo
          rw [if_neg hs, hc]
          show (if (lineRd r s false).1 = 0 then _ else lineRd r s false) = _
          rw [line_none, if_neg (show ¬ ((15 : Int) = 0) by decide)]
        rw [e]
        show r.line + 1 ≤ r.line + 1 ∧ r.line + 1 ≤ _
        omega
theorem parseD_lines {s : List UInt8} (hl : s.length ≤ 65536) (h : (parseD s).1 ≠ 0) : 1 ≤ (parseD s).2.line ∧ (parseD s).2.line ≤ s.count 10 + 1 := by
  unfold parseD at h ⊢
  rw [if_neg (by omega)] at h ⊢
  obtain ⟨h1, h2⟩ := go_lines (s.length + 1) Rd.zero s (Nat.lt_succ_self _) h
  have e : Rd.zero.line = 0 := rfl
  rw [e] at h1 h2
  omega
theorem ContOk.fit {S : Sch} {F : Cont} (hnd : (S.map Prod.fst).Nodup) (h : ContOk S F) (hv : ∀ p ∈ S, ∀ x ∈ F p.1, ∀ v ∈ x, VInt v) : ContFit S F := fun p hp => by
  obtain ⟨h1, h2, h3⟩ := h p hp
  refine ⟨h1, h2, fun x hx => ?_⟩
  have hc := h3 x hx
  rw [checkF_at hnd hp] at hc
  refine ⟨fun v hvx => ⟨?_, hv p hp x hx v hvx⟩, hc⟩
  unfold checkE at hc
  split at hc
  · cases hc
  · split at hc
    · cases hc
    · rename_i h4
      have h4 : x.all RL.validV = true := by simpa using h4
      exact List.all_eq_true.1 h4 v hvx
end
section
open Go.RowKit

theorem errSchs_of : ∀ (S : Sch) (seen : List ByteArray), (∀ p ∈ S, p.1 ∉ seen) → (S.map Prod.fst).Nodup → (∀ p ∈ S, nameF p.1 = true ∧ p.2.length ≤ 6 ∧ ∀ k ∈ p.2, k = 1 ∨ k = 2) → errSchs seen S = 0
  | [], _, _, _, _ => rfl
  | p :: S, seen, h1, h2, h3 => by
    obtain ⟨a, b, c⟩ := h3 p List.mem_cons_self
    rw [List.map_cons, List.nodup_cons] at h2
    have e : errSch seen p = 0 := by
      unfold errSch
      have hm : memB p.1 seen = false := by
        cases hm : memB p.1 seen with
        | false => rfl
        | true => exact absurd (memB_iff.1 hm) (h1 p List.mem_cons_self)
      rw [if_neg (by rw [a]; decide), hm, if_neg (by decide), if_neg (by omega), if_neg]
      rintro ⟨k, hk, k1, k2⟩
      exact (c k hk).elim k1 k2
    show (if errSch seen p = 0 then errSchs (seen ++ [p.1]) S else errSch seen p) = 0
    rw [if_pos e]
    refine errSchs_of S _ (fun q hq hm => ?_) h2.2 fun q hq => h3 q (List.mem_cons_of_mem _ hq)
    rcases List.mem_append.1 hm with hm | hm
    · exact h1 q (List.mem_cons_of_mem _ hq) hm
    · exact h2.1 (by rw [← List.mem_singleton.1 hm]; exact List.mem_map.2 ⟨q, hq, rfl⟩)
theorem errS_of {S : Sch} (hl : S.length ≤ 16) (hn : (S.map Prod.fst).Nodup) (h : ∀ p ∈ S, nameF p.1 = true ∧ p.2.length ≤ 6 ∧ ∀ k ∈ p.2, k = 1 ∨ k = 2) : errS S = 0 := by
  unfold errS
  rw [if_neg (by omega)]
  exact errSchs_of S [] (fun _ _ h => (by cases h)) hn h
theorem schsF_perm {S : Sch} {ns : List ByteArray} (hnd : (S.map Prod.fst).Nodup) (h : NamesOf S ns) : (schsF S ns).Perm S := by
  have h1 := h.1.map (fun nm => (nm, kindsF S nm))
  have h2 : (S.map Prod.fst).map (fun nm => (nm, kindsF S nm)) = S := by
    rw [List.map_map]
    have : ∀ p ∈ S, ((fun nm => (nm, kindsF S nm)) ∘ Prod.fst) p = id p := fun p hp => by
      show (p.1, kindsF S p.1) = p
      rw [kindsF_of hnd (ks := p.2) hp]
    rw [List.map_congr_left this, List.map_id]
  rw [h2] at h1
  exact h1
theorem schsF_fst (S : Sch) (ns : List ByteArray) : (schsF S ns).map Prod.fst = ns := by
  unfold schsF
  rw [List.map_map]
  show ns.map (fun nm => nm) = ns
  exact List.map_id _
theorem schsF_err {S : Sch} {ns : List ByteArray} (hE : errS S = 0) (h : NamesOf S ns) : errS (schsF S ns) = 0 := by
  obtain ⟨h1, h2, h3⟩ := errS_mem hE
  have hp := schsF_perm h2 h
  exact errS_of (by rw [hp.length_eq]; exact h1) ((hp.map Prod.fst).nodup_iff.2 h2) fun p hpm => h3 p (hp.mem_iff.1 hpm)
theorem textD_schs {S : Sch} {F : Cont} {ns : List ByteArray} (_hnd : (S.map Prod.fst).Nodup) (_h : NamesOf S ns) : textD S F ns = textL (schsF S ns) F := by
  unfold textD textL schsF
  rw [List.flatMap_map]
  rw [List.flatMap_def, List.flatMap_def, List.map_congr_left]
  intro nm hnm
  show textRel nm (kindsOf S nm) (F nm) = textRel nm (kindsF S nm) (F nm)
  have e : kindsOf S nm = kindsF S nm := by
    unfold kindsOf kindsF
    cases S.find? (fun p => decide (p.1 = nm)) <;> rfl
  rw [e]
theorem textL_len {F : Cont} : ∀ S : Sch, (∀ p ∈ S, p.1.size ≤ 16 ∧ p.2.length ≤ 6) → (∀ p ∈ S, ∀ x ∈ F p.1, x.length ≤ 6 ∧ ∀ v ∈ x, VFit v) → (textL S F).length ≤ 50 * S.length + 603 * sumL S F (fun _ => true)
  | [], _, _ => by simp [textL, sumL]
  | p :: S, h, hx => by
    have ih := textL_len (F := F) S (fun q hq => h q (List.mem_cons_of_mem _ hq)) fun q hq => hx q (List.mem_cons_of_mem _ hq)
    obtain ⟨h1, h2⟩ := h p List.mem_cons_self
    have h4 := rowsW_len (hx p List.mem_cons_self)
    have h6 := kindsW_len p.2
    have h7 : (textRel p.1 p.2 (F p.1)).length = 9 + (p.1.size + (4 * p.2.length + ((rowsW (F p.1)).length + 1))) := by
      unfold textRel
      simp only [List.length_append, List.length_cons, size_len, h6]
      rfl
    have e : textL (p :: S) F = textRel p.1 p.2 (F p.1) ++ textL S F := by unfold textL; rw [List.flatMap_cons]
    have e2 : sumL (p :: S) F (fun _ => true) = (F p.1).length + sumL S F (fun _ => true) := by
      show (if true = true then (F p.1).length else 0) + _ = _
      rw [if_pos rfl]
    rw [e, e2, List.length_append, h7, List.length_cons]
    omega
def RdV (r : Rd) : Prop := (∀ s, ∀ x ∈ r.F s, AllV x) ∧ ∀ x ∈ r.X, AllV x
theorem RdV.zero : RdV Rd.zero := ⟨fun _ _ h => (by cases h), fun _ h => (by cases h)⟩
theorem RdV.inc {r : Rd} (h : RdV r) (n : Nat) : RdV { r with line := n } := h
theorem RdV.close {r : Rd} (h : RdV r) : RdV (closeRd r) := by
  cases hl : r.S.getLast? with
  | none => rw [closeRd_none (List.getLast?_eq_none_iff.1 hl)]; exact h
  | some p =>
    rw [closeRd_some hl]
    refine ⟨fun s x hx => ?_, fun x hx => (by cases hx)⟩
    have hx : x ∈ updC r.F p.1 r.X s := hx
    unfold updC at hx
    split at hx
    · exact h.2 x hx
    · exact h.1 s x hx
theorem RdV.row {r : Rd} {text : List UInt8} (h : RdV r) (ok : RdOk r) (hS : r.S ≠ []) (h0 : (rowRd r text).1 = 0) : RdV (rowRd r text).2 := by
  obtain ⟨x, S0, p, h1, h2, h3, h4, h5, h6⟩ := rowRd_ok ok hS h0
  rw [h6]
  refine ⟨h.1, fun y hy => ?_⟩
  have hy : y ∈ r.X ++ [x] := hy
  rcases List.mem_append.1 hy with hy | hy
  · exact h.2 y hy
  · rw [List.mem_singleton.1 hy]; exact (parseR_conv h1).2
theorem RdV.rel {r : Rd} {text : List UInt8} (h : RdV r) (h0 : (relRd r text).1 = 0) : RdV (relRd r text).2 := by
  obtain ⟨nm, ks, h1, h2, h3, h4, h5⟩ := relRd_ok h0
  rw [h5]
  exact ⟨h.close.1, h.close.2⟩
theorem RdV.line {r : Rd} {l : List UInt8} (h : RdV r) (ok : RdOk r) (h0 : (lineRd r l true).1 = 0) : RdV (lineRd r l true).2 := by
  by_cases h1 : (true && Lib.hasPrefix l relW) = true
  · have e : lineRd r l true = relRd { r with line := r.line + 1 } (l.drop 9) := by unfold lineRd; rw [if_pos h1]
    rw [e] at h0 ⊢
    exact (h.inc (r.line + 1)).rel h0
  · by_cases h2 : (true && Lib.hasPrefix l [40] && !r.S.isEmpty) = true
    · have e : lineRd r l true = rowRd { r with line := r.line + 1 } l := by unfold lineRd; rw [if_neg h1, if_pos h2]
      rw [e] at h0 ⊢
      have hS : r.S ≠ [] := fun e => by rw [e] at h2; simp at h2
      exact (h.inc (r.line + 1)).row (ok.inc (r.line + 1)) hS h0
    · have e : lineRd r l true = (15, { r with line := r.line + 1 }) := by unfold lineRd; rw [if_neg h1, if_neg h2]
      rw [e] at h0
      cases h0
theorem go_vals : ∀ (f : Nat) (r : Rd) (s : List UInt8), RdOk r → RdV r → (parseGo f r s).1 = 0 → RdV (parseGo f r s).2
  | 0, r, s, _, _, h => by cases h
  | f + 1, r, s, ok, hv, h => by
    by_cases hs : s = []
    · have e : parseGo (f + 1) r s = (0, closeRd r) := by unfold parseGo; rw [if_pos hs]
      rw [e]
      exact hv.close
    · rcases cut_conv (s := s) with ⟨l, t, e, hl, hc⟩ | ⟨hl, hc⟩
      · subst e
        rw [go_line f r l t hl] at h ⊢
        by_cases h1 : (lineRd r l true).1 = 0
        · rw [if_pos h1] at h ⊢
          exact go_vals f _ t (ok.line h1) (hv.line ok h1) h
        · rw [if_neg h1] at h
          exact absurd h h1
      · have e : parseGo (f + 1) r s = (15, { r with line := r.line + 1 }) := by
          unfold parseGo
          rw [if_neg hs, hc]
          show (if (lineRd r s false).1 = 0 then _ else lineRd r s false) = _
          rw [line_none, if_neg (show ¬ ((15 : Int) = 0) by decide)]
        rw [e] at h
        cases h
theorem parseD_vals {s : List UInt8} (h : (parseD s).1 = 0) : RdV (parseD s).2 := by
  unfold parseD at h ⊢
  by_cases hl : 65536 < s.length
  · rw [if_pos hl] at h; cases h
  · rw [if_neg hl] at h ⊢
    exact go_vals _ _ _ RdOk.zero RdV.zero h
theorem validV_size {v : RL.V} (h : RL.validV v = true) : v.str.size ≤ 24 := by
  rcases validV_cases h with ⟨-, h⟩ | ⟨-, -, h⟩
  · rw [h]; decide
  · exact h
theorem AllV.fit {x : RL.R} (h : AllV x) : ∀ v ∈ x, VFit v := fun v hv => ⟨(h v hv).2.1, (h v hv).2.2, by have := validV_size (h v hv).1; omega⟩
theorem wrongF_len {n : Nat} {x : RL.R} (h : wrongF (n : Int) x = 0) : x.length = n := by
  unfold wrongF at h
  split at h
  · cases h
  · rename_i h1; omega
end
end Go.Proofs.YtdadchpiibipoaaGreatDoor

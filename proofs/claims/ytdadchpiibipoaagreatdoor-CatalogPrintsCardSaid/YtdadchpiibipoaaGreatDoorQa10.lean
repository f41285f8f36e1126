/- Parts of the proof, merged: C28, C29, C30, C31, C36, K1, K2, C37, C38, C39, C40. -/
import Derived.Test.YtdadchpiibipoaaGreatDoorQa9
import Derived.Test.YtdadchpiibipoaaGreatDoorQa5
import Derived.Test.YtdadchpiibipoaaGreatDoorQa6
import Derived.Test.YtdadchpiibipoaaGreatDoorQa2
import Derived.Test.YtdadchpiibipoaaGreatDoorQa1
import Derived.WalkLawsBesides
import Derived.Outline
import Derived.IntWalk

set_option maxRecDepth 100000
namespace Go.Proofs.YtdadchpiibipoaaGreatDoor
section
open Go.RowKit Go.Sort Go.ChangeMaps Go.WideShapes

def aS : ByteArray := ⟨#[115]⟩
def aR : ByteArray := ⟨#[114]⟩
def schA : Sch := [(aS, [1]), (aR, [1, 2])]
def schB : Sch := [(aR, [1, 2]), (aS, [1])]
def oneA : RL.R := [⟨1, 1, ⟨#[]⟩⟩, ⟨2, 0, ⟨#[97]⟩⟩]
def twoA : RL.R := [⟨1, 2, ⟨#[]⟩⟩]
def usA : List Upd := [⟨false, aR, oneA⟩, ⟨false, aS, twoA⟩, ⟨false, aR, oneA⟩]
def contA : Cont := updC (updC (fun _ => []) aR [oneA]) aS [twoA]
theorem errS_A : errS schA = 0 := by decide +kernel
theorem errS_B : errS schB = 0 := by decide +kernel
theorem stepA1 : stepU schA (fun _ => []) ⟨false, aR, oneA⟩ = (0, updC (fun _ => []) aR [oneA], true) := by
  have h1 : checkF schA aR oneA = 0 := by decide +kernel
  unfold stepU
  rw [if_pos h1]
  rfl
theorem stepA2 : stepU schA (updC (fun _ => []) aR [oneA]) ⟨false, aS, twoA⟩ = (0, contA, true) := by
  have h1 : checkF schA aS twoA = 0 := by decide +kernel
  have h2 : updC (fun _ => []) aR [oneA] aS = [] := by decide +kernel
  unfold stepU
  rw [if_pos h1, h2]
  rfl
theorem stepA3 : stepU schA contA ⟨false, aR, oneA⟩ = (0, contA, false) := by
  have h1 : checkF schA aR oneA = 0 := by decide +kernel
  have h2 : contA aR = [oneA] := by decide +kernel
  have h3 : updF false [oneA] oneA = (0, [oneA], false) := by decide +kernel
  unfold stepU
  show (if checkF schA aR oneA = 0 then (if (updF false (contA aR) oneA).1 = 0 then (0, if (updF false (contA aR) oneA).2.2 = true then updC contA aR (updF false (contA aR) oneA).2.1 else contA, (updF false (contA aR) oneA).2.2) else ((updF false (contA aR) oneA).1, contA, false)) else (checkF schA aR oneA, contA, false) : Int × Cont × Bool) = _
  rw [if_pos h1, h2, h3]
  rfl
theorem apply_A : applyF schA (fun _ => []) 0 usA = (0, contA, 2) := by
  unfold usA applyF
  rw [stepA1]
  show applyF schA (updC (fun _ => []) aR [oneA]) 1 [⟨false, aS, twoA⟩, ⟨false, aR, oneA⟩] = _
  unfold applyF
  rw [stepA2]
  show applyF schA contA 2 [⟨false, aR, oneA⟩] = _
  unfold applyF
  rw [stepA3]
  rfl
theorem rows_A : rowsF schA contA = 2 := by decide +kernel
def textA : ByteArray := ⟨#[114, 101, 108, 97, 116, 105, 111, 110, 32, 114, 32, 105, 110, 116, 32, 115, 116, 114, 10, 40, 49, 44, 32, 34, 97, 34, 41, 10, 114, 101, 108, 97, 116, 105, 111, 110, 32, 115, 32, 105, 110, 116, 10, 40, 50, 41, 10]⟩
theorem itoa1 : Lib.itoa 1 = [49] := by
  have : Lib.itoa 1 = Lib.decDigits 1 := rfl
  rw [this, dd_small (by decide)]; rfl
theorem itoa2 : Lib.itoa 2 = [50] := by
  have : Lib.itoa 2 = Lib.decDigits 2 := rfl
  rw [this, dd_small (by decide)]; rfl
theorem text_one : textR oneA = [40, 49, 44, 32, 34, 97, 34, 41] := by
  have h1 : textV ⟨1, 1, ⟨#[]⟩⟩ = [49] := (textV_int (by decide) rfl).trans itoa1
  have h2 : textV ⟨2, 0, ⟨#[97]⟩⟩ = [34, 97, 34] := by
    rw [textV_str (by decide) rfl]; decide
  unfold textR oneA
  rw [commaV_cons, h1]
  show 40 :: (([49] : List UInt8) ++ tailV [⟨2, 0, ⟨#[97]⟩⟩] ++ [41]) = _
  unfold tailV
  rw [List.flatMap_cons, h2]
  rfl
theorem text_two : textR twoA = [40, 50, 41] := by
  have h1 : textV ⟨1, 2, ⟨#[]⟩⟩ = [50] := (textV_int (by decide) rfl).trans itoa2
  unfold textR twoA
  rw [commaV_cons, h1]
  rfl
theorem text_A : textL schB contA = textA.data.toList := by
  have h1 : contA aR = [oneA] := by decide +kernel
  have h2 : contA aS = [twoA] := by decide +kernel
  have e : textL schB contA = textRel aR [1, 2] [oneA] ++ (textRel aS [1] [twoA] ++ []) := by
    unfold textL schB
    rw [List.flatMap_cons, List.flatMap_cons, List.flatMap_nil]
    show textRel aR [1, 2] (contA aR) ++ (textRel aS [1] (contA aS) ++ []) = _
    rw [h1, h2]
  rw [e]
  have r1 : rowsW [oneA] = [40, 49, 44, 32, 34, 97, 34, 41, 10] := by unfold rowsW; rw [List.flatMap_cons, text_one]; rfl
  have r2 : rowsW [twoA] = [40, 50, 41, 10] := by unfold rowsW; rw [List.flatMap_cons, text_two]; rfl
  unfold textRel
  rw [r1, r2]
  decide +kernel
theorem fit_A : ContFit schB contA := by
  have h1 : contA aR = [oneA] := by decide +kernel
  have h2 : contA aS = [twoA] := by decide +kernel
  have hv : ∀ v : RL.V, v ∈ oneA ∨ v ∈ twoA → RL.validV v = true ∧ VInt v := by
    intro v hv
    rcases hv with hv | hv
    · unfold oneA at hv; simp at hv
      rcases hv with rfl | rfl
      · exact ⟨by decide, by constructor <;> decide⟩
      · exact ⟨by decide, by constructor <;> decide⟩
    · unfold twoA at hv; simp at hv
      subst hv
      exact ⟨by decide, by constructor <;> decide⟩
  intro p hp
  unfold schB at hp
  simp at hp
  rcases hp with rfl | rfl
  · show RL.SS (contA aR) ∧ (contA aR).length ≤ 4096 ∧ ∀ x ∈ contA aR, AllV x ∧ checkE [1, 2] x = 0
    rw [h1]
    refine ⟨List.pairwise_singleton _ _, by decide, fun x hx => ?_⟩
    rw [List.mem_singleton.1 hx]
    exact ⟨fun v h => hv v (.inl h), by decide +kernel⟩
  · show RL.SS (contA aS) ∧ (contA aS).length ≤ 4096 ∧ ∀ x ∈ contA aS, AllV x ∧ checkE [1] x = 0
    rw [h2]
    refine ⟨List.pairwise_singleton _ _, by decide, fun x hx => ?_⟩
    rw [List.mem_singleton.1 hx]
    exact ⟨fun v h => hv v (.inr h), by decide +kernel⟩
theorem asc_B : (schB.map Prod.fst).Pairwise fun a b => RL.cmpS a b < 0 := by
  have h : RL.cmpS aR aS < 0 := by decide +kernel
  exact List.Pairwise.cons (fun b hb => by simp at hb; subst hb; exact h) (List.pairwise_singleton _ _)
theorem parse_A : ∃ r, parseD textA.data.toList = (0, r) ∧ r.S = schB ∧ ∀ p ∈ schB, r.F p.1 = contA p.1 := by
  have h := parseD_text errS_B asc_B fit_A (by rw [text_A]; decide)
  rwa [text_A] at h
theorem names_A : NamesOf schA [aR, aS] := ⟨List.Perm.swap _ _ _, asc_B⟩
theorem text_D {ns : List ByteArray} (h : NamesOf schA ns) : textD schA contA ns = textA.data.toList := by
  rw [h.eq names_A, ← text_A]
  have : textD schB contA (schB.map Prod.fst) = textL schB contA := textL_D (errS_mem errS_B).2.1
  rw [← this]
  rfl
theorem same_A : sameC schA contA contA = true := by
  unfold sameC
  rw [List.all_eq_true]
  exact fun p _ => by simp
theorem same_A0 : sameC schA contA (fun _ => []) = false := by decide +kernel
end
section
open Go.RowKit Go.Sort Go.ChangeMaps Go.WideShapes

theorem DbM.perm {P : Nat → Prop} {S S' : Sch} {w : World} {m : Value} {F : Cont} (h : DbM P S w m F) (hp : S.Perm S') : DbM P S' w m F := by
  obtain ⟨b, D, h1, h0, h2, h3, h4, h5⟩ := h
  exact ⟨b, D, h1, h0, h2, h3.trans hp.length_eq, fun k hk => by obtain ⟨p, a, e⟩ := h4 k hk; exact ⟨p, hp.mem_iff.1 a, e⟩, fun p hm => h5 p (hp.mem_iff.2 hm)⟩

set_option maxHeartbeats 4000000 in
theorem l08awake_any (w : World) (hT : Tabs w) : Calls Tryz.prog 10 #[] w fun e w' => e = .returned (.bool true) ∧ Below w.heap.size w w' := by
  obtain ⟨W1, hW1⟩ : ∃ W1, W1 = ((w.alloc (.cells #[.int .i64 1] 3)).alloc (.cells #[.int .i64 1, .int .i64 2] 3)).alloc (.cells #[.string ⟨#[115]⟩, .slice (some ⟨w.heap.size, 0, none⟩) 1 1, .string ⟨#[114]⟩, .slice (some ⟨w.heap.size + 1, 0, none⟩) 2 2] 62) := ⟨_, rfl⟩
  have hx1 : Ext w W1 := by rw [hW1]; exact (((Ext.refl w).alloc _).alloc _).alloc _
  have r1 : Row W1 w.heap.size 3 [.int .i64 1] := by rw [hW1]; exact ((Row.new w 3 _).alloc _).alloc _
  have r2 : Row W1 (w.heap.size + 1) 3 [.int .i64 1, .int .i64 2] := by
    have h := (Row.new (w.alloc (.cells #[.int .i64 1] 3)) 3 [.int .i64 1, .int .i64 2]).alloc (.cells #[.string ⟨#[115]⟩, .slice (some ⟨w.heap.size, 0, none⟩) 1 1, .string ⟨#[114]⟩, .slice (some ⟨w.heap.size + 1, 0, none⟩) 2 2] 62)
    rw [World.size_alloc] at h
    rw [hW1]; exact h
  have r3 : Row W1 (w.heap.size + 1 + 1) 62 [.string ⟨#[115]⟩, .slice (some ⟨w.heap.size, 0, none⟩) 1 1, .string ⟨#[114]⟩, .slice (some ⟨w.heap.size + 1, 0, none⟩) 2 2] := by
    have h := Row.new ((w.alloc (.cells #[.int .i64 1] 3)).alloc (.cells #[.int .i64 1, .int .i64 2] 3)) 62 [.string ⟨#[115]⟩, .slice (some ⟨w.heap.size, 0, none⟩) 1 1, .string ⟨#[114]⟩, .slice (some ⟨w.heap.size + 1, 0, none⟩) 2 2]
    rw [World.size_alloc, World.size_alloc] at h
    rw [hW1]; exact h
  have hschs : SchsM W1.heap.size W1 (some ⟨w.heap.size + 1 + 1, 0, none⟩) schA := fun _ => ⟨w.heap.size + 1 + 1, 0, rfl, r3.lt, fun i hi => by
    have hi2 : i = 0 ∨ i = 1 := by simp [schA] at hi; omega
    rcases hi2 with rfl | rfl
    · exact ⟨some ⟨w.heap.size, 0, none⟩, 1, r3.cell 0, r3.cell 1, r1.sl⟩
    · exact ⟨some ⟨w.heap.size + 1, 0, none⟩, 2, r3.cell 2, r3.cell 3, r2.sl⟩⟩
  have HN := Lib.hid (ctNew_any (fun _ => True) (some ⟨w.heap.size + 1 + 1, 0, none⟩) 2 schA W1 (fun _ _ => trivial) hschs (fun p hp => by simp [schA] at hp; rcases hp with rfl | rfl <;> exact ⟨by decide, by decide⟩) (by decide))
  have HX1 := Lib.hid hx1.below
  have HT := Lib.hid (fun (w' : World) (hb : Below w.heap.size w w') => hT.up hb)
  clear hx1 r1 r2 r3 hschs hT
  go_enter Tryz.func10, Tryz.ntmps10
  go_wp2_with fail
  rw [← hW1]
  clear hW1
  refine HN.out.mono ?_
  rintro e w1 ⟨h1, -, hb1⟩
  obtain ⟨m1, rfl, hdb⟩ := h1 errS_A
  obtain ⟨bd, rfl⟩ := hdb.form
  have HB1 := Lib.hid (Below.then HX1.out hb1 HX1.out.size)
  have HDB := Lib.hid hdb
  clear h1 hb1 hdb HN
  go_upto_region 3 with (fail)
  obtain ⟨gD, hgD⟩ : ∃ g, g = w1.heap.size := ⟨_, rfl⟩
  obtain ⟨gO, hgO⟩ : ∃ g, g = w1.heap.size + 1 := ⟨_, rfl⟩
  obtain ⟨W2, hW2⟩ : ∃ W, W = (w1.alloc (.cells #[.map (some bd)] 28)).alloc (.cells #[.int .i64 1, .int .i64 1, .string ⟨#[]⟩, .int .i64 2, .int .i64 0, .string ⟨#[97]⟩] 82) := ⟨_, rfl⟩
  rw [← hW2, ← hgO, ← hgD]
  have HRD : Hid (Row W2 gD 28 [.map (some bd)]) := by show Row _ _ _ _; rw [hW2, hgD]; exact (Row.new w1 _ _).alloc _
  have HRO : Hid (Row W2 gO 82 (rcells oneA)) := by
    have h := Row.new (w1.alloc (.cells #[.map (some bd)] 28)) 82 (rcells oneA)
    rw [World.size_alloc] at h
    show Row _ _ _ _
    rw [hW2, hgO]; exact h
  have hb2 : Below w1.heap.size w1 W2 := by rw [hW2]; exact (((Ext.refl w1).alloc _).alloc _).below
  have HB2 := Lib.hid (Below.then HB1.out hb2 HB1.out.size)
  have HDB2 := Lib.hid (HDB.out.up hb2)
  clear hW2 hgO hgD hb2 HDB HX1
  obtain ⟨W3, hW3⟩ : ∃ W, W = (W2.alloc (.cells #[.int .i64 1, .int .i64 2, .string ⟨#[]⟩] 82)).alloc (.cells #[.bool false, .string ⟨#[114]⟩, .slice (some ⟨gO, 0, none⟩) 2 2, .bool false, .string ⟨#[115]⟩, .slice (some ⟨W2.heap.size, 0, none⟩) 1 1, .bool false, .string ⟨#[114]⟩, .slice (some ⟨gO, 0, none⟩) 2 2] 53) := ⟨_, rfl⟩
  have hb3 : Below W2.heap.size W2 W3 := by rw [hW3]; exact (((Ext.refl W2).alloc _).alloc _).below
  have hrx : Row W3 W2.heap.size 82 (rcells twoA) := by rw [hW3]; exact (Row.new W2 82 (rcells twoA)).alloc _
  have hru : Row W3 (W2.heap.size + 1) 53 [.bool false, .string ⟨#[114]⟩, .slice (some ⟨gO, 0, none⟩) 2 2, .bool false, .string ⟨#[115]⟩, .slice (some ⟨W2.heap.size, 0, none⟩) 1 1, .bool false, .string ⟨#[114]⟩, .slice (some ⟨gO, 0, none⟩) 2 2] := by
    have h := Row.new (W2.alloc (.cells #[.int .i64 1, .int .i64 2, .string ⟨#[]⟩] 82)) 53 [.bool false, .string ⟨#[114]⟩, .slice (some ⟨gO, 0, none⟩) 2 2, .bool false, .string ⟨#[115]⟩, .slice (some ⟨W2.heap.size, 0, none⟩) 1 1, .bool false, .string ⟨#[114]⟩, .slice (some ⟨gO, 0, none⟩) 2 2]
    rw [World.size_alloc] at h
    rw [hW3]; exact h
  have hro := (HRO.out.up hb3).sl
  have hups : UpdsM W3.heap.size W3 (some ⟨W2.heap.size + 1, 0, none⟩) usA := fun _ => ⟨W2.heap.size + 1, 0, rfl, hru.lt, fun i hi => by
    have hi2 : i = 0 ∨ i = 1 ∨ i = 2 := by simp [usA] at hi; omega
    rcases hi2 with rfl | rfl | rfl
    · exact ⟨some ⟨gO, 0, none⟩, 2, hru.cell 0, hru.cell 1, hru.cell 2, hro⟩
    · exact ⟨some ⟨W2.heap.size, 0, none⟩, 1, hru.cell 3, hru.cell 4, hru.cell 5, hrx.sl⟩
    · exact ⟨some ⟨gO, 0, none⟩, 2, hru.cell 6, hru.cell 7, hru.cell 8, hro⟩⟩
  have HAP := Lib.hid (ctApply_any (fun _ => True) schA (.map (some bd)) (fun _ => []) (some ⟨W2.heap.size + 1, 0, none⟩) 3 usA W3 (HDB2.out.up hb3) (fun _ _ => trivial) hups (fun u hu => by
    simp [usA] at hu
    rcases hu with rfl | rfl | rfl
    · exact ⟨by decide, by decide, fun v hv => by simp [oneA] at hv; rcases hv with rfl | rfl <;> decide⟩
    · exact ⟨by decide, by decide, fun v hv => by simp [twoA] at hv; subst hv; decide⟩
    · exact ⟨by decide, by decide, fun v hv => by simp [oneA] at hv; rcases hv with rfl | rfl <;> decide⟩) (by decide) (by decide))
  have HB3 := Lib.hid (Below.then HB2.out hb3 HB2.out.size)
  have HRD3 := Lib.hid (HRD.out.up hb3)
  have HDB3 := Lib.hid (HDB2.out.up hb3)
  have c0 : W2.cell? ⟨gD, 0, none⟩ = some (.map (some bd)) := HRD.out.cell 0
  have c1 := HRD.out.lt
  have HW3 := Lib.hid hW3
  clear hW3 hb3 hrx hru hro hups HRO HB2 HDB2
  go_wp2_with fail
  rw [← HW3.out]
  refine HAP.out.mono ?_
  rintro e w4 ⟨h1, -, hb4⟩
  rw [apply_A] at h1
  obtain ⟨mx, rfl, hdx⟩ := h1 rfl
  obtain ⟨bx, rfl⟩ := hdx.form
  have HDX := Lib.hid hdx
  have HDB4 := Lib.hid (HDB3.out.up hb4)
  have HRD4 := Lib.hid (HRD3.out.up hb4)
  have HB4 := Lib.hid (Below.then HB3.out hb4 HB3.out.size)
  clear h1 hb4 hdx HAP HW3 HDB3 HRD3 HB3 c0 c1 HRD
  go_upto_region 5 with (fail)
  obtain ⟨gX, hgX⟩ : ∃ g, g = w4.heap.size := ⟨_, rfl⟩
  obtain ⟨W5, hW5⟩ : ∃ W, W = w4.alloc (.cells #[.map (some bx)] 28) := ⟨_, rfl⟩
  rw [← hW5, ← hgX]
  have hb5 : Below w4.heap.size w4 W5 := by rw [hW5]; exact ((Ext.refl w4).alloc _).below
  have HRX : Hid (Row W5 gX 28 [.map (some bx)]) := by show Row _ _ _ _; rw [hW5, hgX]; exact Row.new w4 _ _
  have HDX5 := Lib.hid (HDX.out.up hb5)
  have HDB5 := Lib.hid (HDB4.out.up hb5)
  have HRD5 := Lib.hid (HRD4.out.up hb5)
  have HB5 := Lib.hid (Below.then HB4.out hb5 HB4.out.size)
  have HPA := Lib.hid (ctParse_any textA (by decide) W5 (HT.out W5 HB5.out))
  clear hW5 hgX hb5 HDX HDB4 HRD4 HB4
  go_wp2_with fail
  refine HPA.out.mono ?_
  rintro e w6 ⟨h1, -, hb6⟩
  obtain ⟨r, hr1, hr2, hr3⟩ := parse_A
  rw [hr1] at h1
  obtain ⟨my, rfl, hmy⟩ := h1 rfl
  have hdy : DbM (fun c => W5.heap.size ≤ c) schA w6 my contA := by
    rcases hmy with ⟨h, -⟩ | ⟨-, h⟩
    · have h : r.S = [] := h
      rw [hr2] at h; cases h
    · have h : DbM (fun c => W5.heap.size ≤ c) r.S w6 my r.F := h
      rw [hr2] at h
      exact (h.congr hr3).perm (List.Perm.swap _ _ _)
  obtain ⟨by_, rfl⟩ := hdy.form
  have HDY := Lib.hid hdy
  have HDX6 := Lib.hid (HDX5.out.up hb6)
  have HDB6 := Lib.hid (HDB5.out.up hb6)
  have HRD6 := Lib.hid (HRD5.out.up hb6)
  have HRX6 := Lib.hid (HRX.out.up hb6)
  have HB6 := Lib.hid (Below.then HB5.out hb6 HB5.out.size)
  clear h1 hmy hdy hb6 hr1 hr2 hr3 HDX5 HDB5 HRD5 HRX HB5 HPA
  go_upto_region 6 with (fail)
  obtain ⟨gY, hgY⟩ : ∃ g, g = w6.heap.size := ⟨_, rfl⟩
  obtain ⟨W7, hW7⟩ : ∃ W, W = w6.alloc (.cells #[.map (some by_)] 28) := ⟨_, rfl⟩
  rw [← hW7, ← hgY]
  have hb7 : Below w6.heap.size w6 W7 := by rw [hW7]; exact ((Ext.refl w6).alloc _).below
  have HRY : Hid (Row W7 gY 28 [.map (some by_)]) := by show Row _ _ _ _; rw [hW7, hgY]; exact Row.new w6 _ _
  have HDY7 := Lib.hid (HDY.out.up hb7)
  have HDX7 := Lib.hid (HDX6.out.up hb7)
  have HDB7 := Lib.hid (HDB6.out.up hb7)
  have HRD7 := Lib.hid (HRD6.out.up hb7)
  have HRX7 := Lib.hid (HRX6.out.up hb7)
  have HB7 := Lib.hid (Below.then HB6.out hb7 HB6.out.size)
  have HND : Hid (schA.map Prod.fst).Nodup := (errS_mem errS_A).2.1
  have HC1 := Lib.hid (ctRows_any W7 HDX7.out HND.out (by decide))
  rw [rows_A] at HC1
  have c0 : W7.cell? ⟨gX, 0, none⟩ = some (.map (some bx)) := HRX7.out.cell 0
  have c1 := HRX7.out.lt
  clear hW7 hgY hb7 HDY HDX6 HDB6 HRD6 HRX6 HB6
  go_wp2_with fail
  refine HC1.out.mono ?_
  rintro e w8 ⟨rfl, hb8⟩
  have HB8 := Lib.hid (Below.then HB7.out hb8 HB7.out.size)
  have HX8 := Lib.hid (HDX7.out.up hb8)
  have HY8 := Lib.hid (HDY7.out.up hb8)
  have HD8 := Lib.hid (HDB7.out.up hb8)
  have HRX8 := Lib.hid (HRX7.out.up hb8)
  have HRY8 := Lib.hid (HRY.out.up hb8)
  have HRD8 := Lib.hid (HRD7.out.up hb8)
  have hfit : RowsFit schA contA := fun p hp => by
    have hp2 : p ∈ schB := (List.Perm.swap _ _ _ : schA.Perm schB).mem_iff.1 hp
    obtain ⟨f1, f2, f3⟩ := fit_A p hp2
    obtain ⟨-, k6, -⟩ := (errS_mem errS_A).2.2 p hp
    refine ⟨k6, f2, fun x hx => ?_⟩
    obtain ⟨f4, f5⟩ := f3 x hx
    have hxl : x.length = p.2.length := by
      unfold checkE at f5
      split at f5
      · cases f5
      · rename_i h; simpa using h
    refine ⟨by omega, fun v hv => ⟨(f4 v hv).2.1, (f4 v hv).2.2, ?_⟩⟩
    rcases validV_cases (f4 v hv).1 with ⟨-, e⟩ | ⟨-, -, e⟩
    · rw [e]; exact Nat.zero_le _
    · omega
  have HTX := Lib.hid (ctText_any w8 HX8.out HND.out (by decide) (fun p hp => by simp [schA] at hp; rcases hp with rfl | rfl <;> decide) (fun p hp x hx v hv => ((hfit p hp).2.2 x hx).2 v hv) hfit (HT.out w8 HB8.out))
  have c0 : w8.cell? ⟨gX, 0, none⟩ = some (.map (some bx)) := HRX8.out.cell 0
  have c1 := HRX8.out.lt
  clear hb8 hfit HC1 HDY7 HDX7 HDB7 HRD7 HRX7 HRY HB7
  go_wp2_with fail
  refine HTX.out.mono ?_
  rintro e w9 ⟨ns, hns, rfl, hb9⟩
  rw [text_D hns, toB_mk]
  have HB9 := Lib.hid (Below.then HB8.out hb9 HB8.out.size)
  have HX9 := Lib.hid (HX8.out.up hb9)
  have HY9 := Lib.hid (HY8.out.up hb9)
  have HD9 := Lib.hid (HD8.out.up hb9)
  have HRX9 := Lib.hid (HRX8.out.up hb9)
  have HRY9 := Lib.hid (HRY8.out.up hb9)
  have HRD9 := Lib.hid (HRD8.out.up hb9)
  have HE1 := Lib.hid (ctEqual_any w9 HX9.out HY9.out HND.out)
  rw [same_A] at HE1
  have c0 : w9.cell? ⟨gX, 0, none⟩ = some (.map (some bx)) := HRX9.out.cell 0
  have c1 := HRX9.out.lt
  have c2 : w9.cell? ⟨gY, 0, none⟩ = some (.map (some by_)) := HRY9.out.cell 0
  have c3 := HRY9.out.lt
  clear hns hb9 HTX HX8 HY8 HD8 HRX8 HRY8 HRD8 HB8
  have hta : (textA.toList == [114, 101, 108, 97, 116, 105, 111, 110, 32, 114, 32, 105, 110, 116, 32, 115, 116, 114, 10, 40, 49, 44, 32, 34, 97, 34, 41, 10, 114, 101, 108, 97, 116, 105, 111, 110, 32, 115, 32, 105, 110, 116, 10, 40, 50, 41, 10]) = true := by rw [strEq_data]; exact decide_eq_true rfl
  have htb : ([114, 101, 108, 97, 116, 105, 111, 110, 32, 114, 32, 105, 110, 116, 32, 115, 116, 114, 10, 40, 49, 44, 32, 34, 97, 34, 41, 10, 114, 101, 108, 97, 116, 105, 111, 110, 32, 115, 32, 105, 110, 116, 10, 40, 50, 41, 10] == textA.toList) = true := by rw [show textA.toList = textA.data.toList from ByteArray.toList_eq textA]; decide
  go_wp2_with fail
  refine HE1.out.mono ?_
  rintro e wa ⟨rfl, hba⟩
  have HBA := Lib.hid (Below.then HB9.out hba HB9.out.size)
  have HXA := Lib.hid (HX9.out.up hba)
  have HDA := Lib.hid (HD9.out.up hba)
  have HRXA := Lib.hid (HRX9.out.up hba)
  have HRDA := Lib.hid (HRD9.out.up hba)
  have HE2 := Lib.hid (ctEqual_any wa HXA.out HDA.out HND.out)
  rw [same_A0] at HE2
  have c0 : wa.cell? ⟨gX, 0, none⟩ = some (.map (some bx)) := HRXA.out.cell 0
  have c1 := HRXA.out.lt
  have c2 : wa.cell? ⟨gD, 0, none⟩ = some (.map (some bd)) := HRDA.out.cell 0
  have c3 := HRDA.out.lt
  clear hba HE1 HX9 HY9 HD9 HRX9 HRY9 HRD9
  go_wp2_with fail
  refine HE2.out.mono ?_
  rintro e wb ⟨rfl, hbb⟩
  have HBB := Lib.hid (Below.then HBA.out hbb HBA.out.size)
  clear hbb
  go_wp2_with fail
  go_ret
  exact ⟨rfl, HBB.out⟩
end
section
open Go.RowKit Go.Sort Go.ChangeMaps Go.WideShapes

set_option maxHeartbeats 4000000 in
theorem l08Few_any (SA : Option Addr) (SC sl : Nat) (A : Option Addr) (C : Nat) (us : List Upd) (w : World) (hU : UpdsM w.heap.size w A us) (hul : us.length ≤ 9223372036854775807) (hok : ∀ u ∈ us, u.rel.size ≤ 9223372036854775807 ∧ u.row.length ≤ 9223372036854775807) :
    Calls Tryz.prog 11 #[.slice SA sl SC, .slice A us.length C] w fun e w' => e = .returned (.bool (decide (sl ≤ 20) && fewB us)) ∧ Ext w w' := by
  have HU := Lib.hid hU
  have HO := Lib.hid hok
  clear hU hok
  go_enter Tryz.func11, Tryz.ntmps11
  go_wp2_with fail
  go_loopw [5] (fun c wx => ∃ k : Nat, k ≤ us.length ∧ k ≤ 60 ∧ c = .int .i64 k ∧ (us.take k).all fewU = true ∧ Ext w wx) (fun c _ => us.length - (intOf c).toNat)
  case atStart => exact ⟨0, Nat.zero_le _, by decide, rfl, rfl, Ext.refl _⟩
  case round =>
    obtain ⟨k, hk, hk6, rfl, hall, hxr⟩ := hrel
    have HALL := Lib.hid hall
    have HXR := Lib.hid hxr
    clear hall hxr
    by_cases hkl : k < us.length
    · have r1 : (k : Int) < (us.length : Int) := by omega
      by_cases hk60 : k < 60
      · have r2 : (k : Int) < 60 := by omega
        obtain ⟨b, o, rfl, hb, hc⟩ := HU.out (by intro h0; rw [h0] at hkl; simp at hkl)
        obtain ⟨RA, RC, c0, c1, c2, -⟩ := hc k hkl
        have c1 := (HXR.out.cell hb).trans c1
        have c2 := (HXR.out.cell hb).trans c2
        have b1 := Nat.lt_of_lt_of_le hb HXR.out.size
        have r0 : (0 : Int) ≤ (k : Int) := by omega
        have r3 : IntKind.i64.wrap ((k : Int) + 1) = ((k + 1 : Nat) : Int) := by rw [IntWalk.i64_in _ (by omega)]; omega
        have HT := Lib.hid (all_take_succ fewU us k hkl)
        have HBD := Lib.hid (all_bad fewU us k 60 hkl hk60)
        obtain ⟨o1, o2⟩ := HO.out us[k] (List.getElem_mem hkl)
        clear c0 hc
        have HF : Hid (fewU us[k] = (decide (us[k].row.length ≤ 20) && decide (us[k].rel.size ≤ 100))) := rfl
        generalize us[k] = u at *
        by_cases h20 : 20 < u.row.length
        · have q1 : (20 : Int) < (u.row.length : Int) := by omega
          have HB : Hid (fewB us = false) := by
            show fewB us = false
            unfold fewB
            rw [HBD.out (by rw [HF.out, decide_eq_false (by omega)]; rfl)]
            rfl
          clear h20
          go_wp2
          exact bodyPost_ret (v := .bool false) (by simp [results, Tryz.results11, go_sem]) rfl ⟨by rw [HB.out, Bool.and_false], HXR.out⟩
        · have q1 : ¬ (20 : Int) < (u.row.length : Int) := by omega
          by_cases h100 : 100 < u.rel.size
          · have q2 : (100 : Int) < (u.rel.size : Int) := by omega
            have HB : Hid (fewB us = false) := by
              show fewB us = false
              unfold fewB
              rw [HBD.out (by rw [HF.out, decide_eq_false (show ¬ u.rel.size ≤ 100 by omega), Bool.and_false])]
              rfl
            clear h100
            go_wp2
            exact bodyPost_ret (v := .bool false) (by simp [results, Tryz.results11, go_sem]) rfl ⟨by rw [HB.out, Bool.and_false], HXR.out⟩
          · have q2 : ¬ (100 : Int) < (u.rel.size : Int) := by omega
            have HK : Hid ((us.take (k + 1)).all fewU = true) := by
              show _ = true
              rw [HT.out, HALL.out, HF.out, decide_eq_true (by omega), decide_eq_true (by omega)]
              rfl
            clear h20 h100
            go_wp2
            go_roundw
            case rel => exact ⟨k + 1, hkl, hk60, by go_num, HK.out, HXR.out⟩
            case measure => simp [intOf]; omega
      · have r2 : ¬ (k : Int) < 60 := by omega
        obtain rfl : k = 60 := by omega
        have q : decide ((us.length : Int) ≤ 60) = false := decide_eq_false (by omega)
        have q3 : ¬ (us.length : Int) ≤ 60 := by omega
        have HB : Hid (fewB us = false) := by
          show fewB us = false
          unfold fewB
          rw [decide_eq_false (show ¬ us.length ≤ 60 by omega), Bool.and_false]
        by_cases h20 : sl ≤ 20
        · have z1 : decide ((sl : Int) ≤ 20) = true := decide_eq_true (by omega)
          have z2 : (sl : Int) ≤ 20 := by omega
          clear h20
          go_wp2
          exact bodyPost_ret (v := .bool false) (by simp [results, Tryz.results11, go_sem]) rfl ⟨by rw [HB.out, Bool.and_false], HXR.out⟩
        have z1 : decide ((sl : Int) ≤ 20) = false := decide_eq_false (by omega)
        have z2 : ¬ (sl : Int) ≤ 20 := by omega
        clear h20
        go_wp2
        exact bodyPost_ret (v := .bool false) (by simp [results, Tryz.results11, go_sem]) rfl ⟨by rw [HB.out, Bool.and_false], HXR.out⟩
    · obtain rfl : k = us.length := by omega
      have r1 : ¬ (us.length : Int) < (us.length : Int) := by omega
      have q : decide ((us.length : Int) ≤ 60) = true := decide_eq_true (by omega)
      have q3 : (us.length : Int) ≤ 60 := by omega
      have HB : Hid (fewB us = true) := by
        show fewB us = true
        unfold fewB
        rw [List.take_of_length_le hk6, decide_eq_true hk6, Bool.and_true]
        have h := HALL.out
        rwa [List.take_length] at h
      by_cases h20 : sl ≤ 20
      · have z1 : decide ((sl : Int) ≤ 20) = true := decide_eq_true (by omega)
        have z2 : (sl : Int) ≤ 20 := by omega
        have HR : Hid ((decide (sl ≤ 20) && fewB us) = true) := by show _ = _; rw [HB.out, decide_eq_true h20]; rfl
        clear h20
        go_wp2
        exact bodyPost_ret (v := .bool true) (by simp [results, Tryz.results11, go_sem]) rfl ⟨by rw [HR.out], HXR.out⟩
      have z1 : decide ((sl : Int) ≤ 20) = false := decide_eq_false (by omega)
      have z2 : ¬ (sl : Int) ≤ 20 := by omega
      have HR : Hid ((decide (sl ≤ 20) && fewB us) = false) := by show _ = _; rw [decide_eq_false h20]; rfl
      clear h20
      go_wp2
      exact bodyPost_ret (v := .bool false) (by simp [results, Tryz.results11, go_sem]) rfl ⟨by rw [HR.out], HXR.out⟩
end
section
open Go.RowKit Go.Sort Go.ChangeMaps Go.WideShapes

theorem UpdsM.keepB {B : Nat} {w w' : World} {A : Option Addr} {us : List Upd} (h : UpdsM B w A us) (hk : ∀ p : Addr, p.block < B → w'.cell? p = w.cell? p) : UpdsM B w' A us := fun hn => by
  obtain ⟨b, o, e, hb, hc⟩ := h hn
  exact ⟨b, o, e, hb, fun i hi => by
    obtain ⟨RA, RC, a1, a2, a3, a4⟩ := hc i hi
    exact ⟨RA, RC, (hk ⟨b, _, none⟩ hb).trans a1, (hk ⟨b, _, none⟩ hb).trans a2, (hk ⟨b, _, none⟩ hb).trans a3, Sl.keep a4 hk⟩⟩
theorem UpdsM.up {w w' : World} {A : Option Addr} {us : List Upd} (h : UpdsM w.heap.size w A us) (hb : Below w.heap.size w w') : UpdsM w'.heap.size w' A us := (h.keepB fun _ hp => hb.cell hp).more hb.size
theorem SchsM.keepB {B : Nat} {w w' : World} {A : Option Addr} {X : Sch} (h : SchsM B w A X) (hk : ∀ p : Addr, p.block < B → w'.cell? p = w.cell? p) : SchsM B w' A X := fun hn => by
  obtain ⟨b, o, e, hb, hc⟩ := h hn
  exact ⟨b, o, e, hb, fun i hi => by
    obtain ⟨KA, KC, a1, a2, a3⟩ := hc i hi
    exact ⟨KA, KC, (hk ⟨b, _, none⟩ hb).trans a1, (hk ⟨b, _, none⟩ hb).trans a2, Sl.keep a3 hk⟩⟩
theorem SchsM.up {w w' : World} {A : Option Addr} {X : Sch} (h : SchsM w.heap.size w A X) (hb : Below w.heap.size w w') : SchsM w'.heap.size w' A X := (h.keepB fun _ hp => hb.cell hp).more hb.size

theorem ApPost.shape {P : Nat → Prop} {S : Sch} {r : Int × Cont × Nat} {w w' : World} {e : Ending} (h : ApPost P S r w e w') : ∃ (mx : Option Nat) (c : Nat), e = .returned (.tuple #[.agg #[.map mx], .int .i64 (c : Nat), .int .i64 r.1]) ∧ (r.1 = 0 → c = r.2.2 ∧ DbM P S w' (.map mx) r.2.1) ∧ (r.1 ≠ 0 → c = 0 ∧ mx = none) ∧ Below w.heap.size w w' := by
  obtain ⟨h1, h2, hb⟩ := h
  by_cases h0 : r.1 = 0
  · obtain ⟨m, rfl, hd⟩ := h1 h0
    obtain ⟨b, rfl⟩ := hd.form
    exact ⟨some b, _, by rw [h0], fun _ => ⟨rfl, hd⟩, fun h => absurd h0 h, hb⟩
  · exact ⟨none, 0, h2 h0, fun h => absurd h h0, fun _ => ⟨rfl, rfl⟩, hb⟩
theorem sameC_self (S : Sch) (F : Cont) : sameC S F F = true := by
  unfold sameC
  rw [List.all_eq_true]
  exact fun p _ => by simp
end
section
open Go.RowKit Go.Sort Go.ChangeMaps Go.WideShapes

theorem strEq_str (a b : ByteArray) : (a.toList == b.toList) = decide (a = b) := by
  rw [show b.toList = b.data.toList from ByteArray.toList_eq b, strEq_data, toB_mk]
theorem memB_take {s : ByteArray} {S : Sch} {i : Nat} (h : i < S.length) : memB s ((S.take (i + 1)).map Prod.fst) = (memB s ((S.take i).map Prod.fst) || decide (S[i].1 = s)) := by
  rw [List.take_succ_eq_append_getElem h, List.map_append]
  unfold memB
  rw [List.any_append]
  simp
end
section
open Go.RowKit Go.Sort

theorem bytesLess_eq : ∀ x y : List UInt8, Op.bytesLess x y = decide (RL.cmpL RL.cmpB x y < 0)
  | x, [] => by cases x <;> simp [Op.bytesLess, RL.cmpL]
  | [], _ :: _ => by simp [Op.bytesLess, RL.cmpL]
  | a :: x, b :: y => by
    simp only [Op.bytesLess, RL.cmpL, bytesLess_eq x y, RL.cmpB, UInt8.lt_iff_toNat_lt]
    by_cases h1 : a.toNat < b.toNat
    · rw [if_pos h1]; simp [h1]
    · rw [if_neg h1]
      by_cases h2 : b.toNat < a.toNat
      · rw [if_pos h2]
        have : ¬ a = b := fun e => by rw [e] at h2; omega
        simp [h1, this]
      · rw [if_neg h2]
        have : a = b := by rw [← UInt8.toNat_inj]; omega
        simp [this]
theorem toList_data (a : ByteArray) : a.toList = a.data.toList := by rw [ByteArray.toList_eq]
end
section
open Go.RowKit Go.Sort

theorem run_neV (u v : RL.V) (w : World) : (binOp .neq 82 (vv u) (vv v)).run Tryz.prog w = .ok (.bool (!decide (u = v))) w := by
  simp [go_sem, RL.V.ext_iff, toList_data]
  by_cases h1 : u.kind = v.kind
  · by_cases h2 : u.int = v.int
    · by_cases h3 : u.str = v.str
      · simp [h1, h2, h3]
      · have : ¬ u.str.data.toList = v.str.data.toList := fun e => h3 (RL.str_ext e)
        simp only [if_pos h1, if_pos h2]
        rw [if_neg (by simpa using this)]
        simp [h1, h2, h3]
    · simp [h1, h2]
  · simp [h1]
theorem run_neV_f {u v : RL.V} (h : u ≠ v) (w : World) : (binOp .neq 82 (vv u) (vv v)).run Tryz.prog w = .ok (.bool true) w := by rw [run_neV]; simp [h]
theorem run_neV_t {u v : RL.V} (h : u = v) (w : World) : (binOp .neq 82 (vv u) (vv v)).run Tryz.prog w = .ok (.bool false) w := by rw [run_neV]; simp [h]
theorem rowEq_step {x y : RL.R} {k : Nat} (h1 : k < x.length) (h2 : k < y.length) : (x.drop k = y.drop k) ↔ (x[k] = y[k] ∧ x.drop (k + 1) = y.drop (k + 1)) := by
  rw [List.drop_eq_getElem_cons h1, List.drop_eq_getElem_cons h2, List.cons.injEq]
end
section
open Go.RowKit Go.Sort Go.ChangeMaps Go.WideShapes

theorem strEq_nil (s : ByteArray) : (s.toList == []) = decide (s.size = 0) := by
  rw [strEq_data]
  by_cases h : s.size = 0
  · rw [decide_eq_true h]
    have : s = toB [] := by
      have h1 : s.data.toList = [] := List.eq_nil_of_length_eq_zero (by simpa using h)
      rw [← h1, toB_mk]
    simp [this]
  · rw [decide_eq_false h]
    simp only [decide_eq_false_iff_not]
    intro e; rw [e] at h; exact h rfl

set_option maxHeartbeats 2000000 in
theorem r08good_any (v : RL.V) (hv : v.str.size ≤ 9223372036854775807) (w : World) : Calls Tryz.prog 68 #[vv v] w fun e w' => e = .returned (.bool (RL.validV v)) ∧ Ext w w' := by
  obtain ⟨kd, it, st⟩ := v
  have hst := strEq_nil st
  have hx : Hid (Ext w (w.alloc (.cells #[.int .i64 kd, .int .i64 it, .string st] 82))) := (Ext.refl w).alloc _
  by_cases h1 : kd = 1
  · have hk : (kd == 1) = true := by simp [h1]
    have hk2 : (kd == 2) = false := by rw [h1]; rfl
    obtain ⟨z, hz⟩ : ∃ z, z = decide (st.size = 0) := ⟨_, rfl⟩
    have HV : Hid (RL.validV ⟨kd, it, st⟩ = z) := by show _ = _; rw [hz]; simp [RL.validV, h1]
    rw [← hz] at hst
    clear hz h1
    cases z with
    | true =>
      go_enter Tryz.func68, Tryz.ntmps68
      go_wp2_with fail
      go_ret
      exact ⟨ret_bool HV.out.symm, hx.out⟩
    | false =>
      go_enter Tryz.func68, Tryz.ntmps68
      go_wp2_with fail
      go_ret
      exact ⟨ret_bool HV.out.symm, hx.out⟩
  have hk : (kd == 1) = false := by simpa using h1
  by_cases h2 : kd = 2
  rotate_left
  · have hk2 : (kd == 2) = false := by simpa using h2
    have HV : Hid (RL.validV ⟨kd, it, st⟩ = false) := by show _ = _; simp [RL.validV, h1, h2]
    clear h1 h2
    go_enter Tryz.func68, Tryz.ntmps68
    go_wp2_with fail
    go_ret
    exact ⟨ret_bool HV.out.symm, hx.out⟩
  have hk2 : (kd == 2) = true := by simp [h2]
  by_cases h3 : it = 0
  rotate_left
  · have hi : (it == 0) = false := by simpa using h3
    have HV : Hid (RL.validV ⟨kd, it, st⟩ = false) := by show _ = _; simp [RL.validV, h2, h3]
    clear h1 h2 h3
    go_enter Tryz.func68, Tryz.ntmps68
    go_wp2_with fail
    go_ret
    exact ⟨ret_bool HV.out.symm, hx.out⟩
  have hi : (it == 0) = true := by simp [h3]
  obtain ⟨z, hz⟩ : ∃ z, z = decide (st.size ≤ 24) := ⟨_, rfl⟩
  have hle : decide ((st.size : Int) ≤ 24) = z := by rw [hz]; by_cases h : st.size ≤ 24 <;> simp [h] <;> omega
  have HV : Hid (RL.validV ⟨kd, it, st⟩ = z) := by show _ = _; rw [hz]; simp [RL.validV, h2, h3]
  clear h1 h2 h3 hz
  cases z with
  | true =>
    go_enter Tryz.func68, Tryz.ntmps68
    go_wp2_with fail
    go_ret
    exact ⟨ret_bool HV.out.symm, hx.out⟩
  | false =>
    go_enter Tryz.func68, Tryz.ntmps68
    go_wp2_with fail
    go_ret
    exact ⟨ret_bool HV.out.symm, hx.out⟩

set_option maxHeartbeats 1000000 in
theorem r08Same_any (XA YA : Option Addr) (XC YC : Nat) (x y : RL.R) (w : World) (hx : SlR w.heap.size w XA x) (hy : SlR w.heap.size w YA y) (_hxl : x.length ≤ 1000000) (hyl : y.length ≤ 1000000) :
    Calls Tryz.prog 22 #[.slice XA x.length XC, .slice YA y.length YC] w fun e w' => e = .returned (.bool (decide (x = y))) ∧ Ext w w' := by
  by_cases hl : x.length = y.length
  rotate_left
  · have hd : decide (x = y) = false := by simp; intro h; subst h; exact hl rfl
    rw [hd]
    have hne : ((x.length : Int) != (y.length : Int)) = true := by simp; omega
    clear hx hy hl
    go_enter Tryz.func22, Tryz.ntmps22
    go_wp2
    go_ret
    exact ⟨rfl, Ext.refl _⟩
  have hne : ((x.length : Int) != (y.length : Int)) = false := by simp; omega
  have hl1 : x.length ≤ y.length := by omega
  have HL := Lib.hid hl
  have HX := Lib.hid hx
  have HY := Lib.hid hy
  clear hx hy hl
  go_enter Tryz.func22, Tryz.ntmps22
  go_wp2
  go_loopw [5] (fun i wr => ∃ k : Nat, k ≤ x.length ∧ i = .int .i64 k ∧ (x = y ↔ x.drop k = y.drop k) ∧ Ext w wr) (fun i _ => x.length - (intOf i).toNat)
  case atStart => exact ⟨0, Nat.zero_le _, rfl, by simp, Ext.refl _⟩
  case round =>
    obtain ⟨k, hka, rfl, hq, he⟩ := hrel
    have HQ := Lib.hid hq
    have HE := Lib.hid he
    clear hq
    by_cases h1 : k < x.length
    rotate_left
    · have HD : Hid (decide (x = y) = true) := by
        show _ = _
        have e1 : x.drop k = [] := List.drop_eq_nil_of_le (by omega)
        have e2 : y.drop k = [] := List.drop_eq_nil_of_le (by have := HL.out; omega)
        simpa using HQ.out.2 (by rw [e1, e2])
      go_wp2
      go_ret
      exact ⟨ret_bool HD.out.symm, HE.out⟩
    have h2 : k < y.length := by omega
    obtain ⟨b, o, rfl, hb, c1, c2, c3⟩ := slR_at HX.out h1
    obtain ⟨b', o', rfl, hb', d1, d2, d3⟩ := slR_at HY.out h2
    have HS := Lib.hid (HQ.out.trans (rowEq_step h1 h2))
    generalize x[k] = u at *
    generalize y[k] = v at *
    have c1 := (he.cell hb).trans c1
    have c2 := (he.cell hb).trans c2
    have c3 := (he.cell hb).trans c3
    have d1 := (he.cell hb').trans d1
    have d2 := (he.cell hb').trans d2
    have d3 := (he.cell hb').trans d3
    have g1 : (0 : Int) ≤ (k : Int) := by omega
    have g2 : (k : Int) < (x.length : Int) := by omega
    have g3 : (k : Int) < (y.length : Int) := by omega
    by_cases huv : u = v
    · have HQ2 : Hid (x = y ↔ x.drop (k + 1) = y.drop (k + 1)) := HS.out.trans ⟨fun h => h.2, fun h => ⟨huv, h⟩⟩
      have hr := run_neV_t huv
      clear huv HS
      go_wp2
      go_quiet (fail)
      go_wp2
      go_roundw
      case rel => exact ⟨k + 1, by omega, by go_num, HQ2.out, HE.out.drewN _⟩
      case measure => simp [intOf]; omega
    · have HD : Hid (decide (x = y) = false) := by show _ = _; simp; intro h; exact huv (HS.out.1 h).1
      have hr := run_neV_f huv
      clear huv HS
      go_wp2
      go_quiet (fail)
      go_wp2
      go_ret
      exact ⟨ret_bool HD.out.symm, HE.out.drewN _⟩

def findN (S : Sch) (nm : ByteArray) : Int := match S.findIdx? (fun p => decide (p.1 = nm)) with
  | none => -1
  | some i => (i : Int)
theorem findN_none {S : Sch} {nm : ByteArray} (h : memB nm (S.map Prod.fst) = false) : findN S nm = -1 := by
  have : S.findIdx? (fun p => decide (p.1 = nm)) = none := by
    rw [List.findIdx?_eq_none_iff]
    intro p hp
    unfold memB at h
    rw [List.any_eq_false] at h
    have := h p.1 (List.mem_map_of_mem hp)
    simpa using this
  unfold findN; rw [this]
theorem findN_some {S : Sch} {nm : ByteArray} {i : Nat} (hi : i < S.length) (h : memB nm ((S.take i).map Prod.fst) = false) (he : S[i].1 = nm) : findN S nm = i := by
  have : S.findIdx? (fun p => decide (p.1 = nm)) = some i := by
    rw [List.findIdx?_eq_some_iff_getElem]
    refine ⟨hi, by simpa using he, fun j hj => ?_⟩
    unfold memB at h
    rw [List.any_eq_false] at h
    have hm : S[j].1 ∈ (S.take i).map Prod.fst := List.mem_map.2 ⟨S[j], by rw [List.mem_take_iff_getElem]; exact ⟨j, by omega, rfl⟩, rfl⟩
    have := h _ hm
    simpa using this
  unfold findN; rw [this]

set_option maxHeartbeats 2000000 in
theorem r08find_any (SA : Option Addr) (SC : Nat) (S : Sch) (fv : Value) (nm : ByteArray) (w : World) (hS : SchsM w.heap.size w SA S) (hSl : S.length ≤ 1000) :
    Calls Tryz.prog 39 #[.agg #[.slice SA S.length SC, fv], .string nm] w fun e w' => e = .returned (.int .i64 (findN S nm)) ∧ Ext w w' := by
  obtain ⟨W0, hW0⟩ : ∃ W, W = w.alloc (.cells #[.slice SA S.length SC, fv] 31) := ⟨_, rfl⟩
  have HX : Hid (Ext w W0) := by show Ext _ _; rw [hW0]; exact (Ext.refl w).alloc _
  have HR : Hid (Row W0 w.heap.size 31 [.slice SA S.length SC, fv]) := by show Row _ _ _ _; rw [hW0]; exact Row.new w _ _
  have HS := Lib.hid (hS.up HX.out.below)
  clear hS
  obtain ⟨g, hg⟩ : ∃ g, g = w.heap.size := ⟨_, rfl⟩
  rw [← hg] at HR
  have c0 : W0.cell? ⟨g, 0, none⟩ = some (.slice SA S.length SC) := HR.out.cell 0
  have c1 := HR.out.lt
  go_enter Tryz.func39, Tryz.ntmps39
  go_upto_region 1 with (fail)
  rw [← hW0, ← hg]
  clear hW0 hg
  go_wp2_with fail
  go_loopw [5] (fun c wx => ∃ i : Nat, i ≤ S.length ∧ c = .int .i64 i ∧ memB nm ((S.take i).map Prod.fst) = false ∧ wx = W0) (fun c _ => S.length - (intOf c).toNat)
  case atStart => exact ⟨0, Nat.zero_le _, rfl, rfl, rfl⟩
  case round =>
    obtain ⟨i, hi, rfl, hm, hwr⟩ := hrel
    subst hwr
    have HM := Lib.hid hm
    clear hm
    by_cases hil : i < S.length
    · obtain ⟨ab, ao, rfl, hab, hac⟩ := HS.out (by intro h0; rw [h0] at hil; simp at hil)
      obtain ⟨KA, KC, d0, -, -⟩ := hac i hil
      have g1 : (0 : Int) ≤ (i : Int) := by omega
      have g2 : (i : Int) < (S.length : Int) := by omega
      have hw1 : IntKind.i64.wrap ((i : Int) + 1) = ((i + 1 : Nat) : Int) := by rw [IntWalk.i64_in _ (by omega)]; omega
      have HTK := Lib.hid (memB_take (s := nm) hil)
      have HFS := Lib.hid (fun h => findN_some (nm := nm) hil HM.out h)
      have hse := strEq_str S[i].1 nm
      generalize S[i].1 = sn at *
      by_cases hq : sn = nm
      · rw [decide_eq_true hq] at hse
        have HV := Lib.hid (HFS.out hq)
        clear hq hac
        go_wp2_with fail
        go_ret
        exact ⟨by rw [HV.out]; rfl, HX.out⟩
      · rw [decide_eq_false hq] at hse
        have HV : Hid (memB nm ((S.take (i + 1)).map Prod.fst) = false) := by show _ = _; rw [HTK.out, HM.out, decide_eq_false hq]; rfl
        clear hq hac
        go_wp2_with fail
        go_roundw
        case rel => exact ⟨i + 1, hil, by go_num, HV.out, by first | rfl | trivial⟩
        case measure => simp [intOf]; omega
    · obtain rfl : i = S.length := by omega
      have HV : Hid (findN S nm = -1) := by show _ = _; exact findN_none (by have := HM.out; rwa [List.take_length] at this)
      have hdl : decide ((S.length : Int) < (S.length : Int)) = false := decide_eq_false (by omega)
      clear hil
      go_wp2_with fail
      go_ret
      exact ⟨by rw [HV.out]; rfl, HX.out⟩
end
section
open Go.RowKit Go.Sort Go.ChangeMaps Go.WideShapes

theorem find_cases (S : Sch) (nm : ByteArray) : (findN S nm = -1 ∧ ∀ x, checkF S nm x = 7) ∨ ∃ i, ∃ h : i < S.length, findN S nm = i ∧ S[i].1 = nm ∧ ∀ x, checkF S nm x = checkE S[i].2 x := by
  unfold findN checkF
  cases h : S.findIdx? (fun p => decide (p.1 = nm)) with
  | none =>
    left
    rw [List.findIdx?_eq_none_iff] at h
    have : S.find? (fun p => decide (p.1 = nm)) = none := by rw [List.find?_eq_none]; intro p hp; rw [h p hp]; simp
    exact ⟨rfl, fun x => by rw [this]⟩
  | some i =>
    right
    rw [List.findIdx?_eq_some_iff_getElem] at h
    obtain ⟨hi, h1, h3⟩ := h
    have : S.find? (fun p => decide (p.1 = nm)) = some S[i] := by rw [List.find?_eq_some_iff_getElem]; exact ⟨h1, i, hi, rfl, fun j hj => by simpa using h3 j hj⟩
    exact ⟨i, hi, rfl, by simpa using h1, fun x => by rw [this]⟩
theorem all_valid_step {x : RL.R} {k : Nat} (h : k < x.length) : (x.drop k).all RL.validV = (RL.validV x[k] && (x.drop (k + 1)).all RL.validV) := by
  rw [List.drop_eq_getElem_cons h, List.all_cons]

set_option maxHeartbeats 4000000 in
theorem r08Update_any (SA : Option Addr) (SC : Nat) (S : Sch) (fv : Value) (del : Bool) (nm : ByteArray) (RA : Option Addr) (RC : Nat) (x : RL.R) (w : World) (hS : SchsM w.heap.size w SA S) (hSl : S.length ≤ 1000) (hx : SlR w.heap.size w RA x) (hxl : x.length ≤ 1000000) (hs : ∀ v ∈ x, v.str.size ≤ 9223372036854775807) :
    Calls Tryz.prog 35 #[.agg #[.slice SA S.length SC, fv], .agg #[.bool del, .string nm, .slice RA x.length RC]] w fun e w' => e = .returned (.int .i64 (checkF S nm x)) ∧ Ext w w' := by
  obtain ⟨W0, hW0⟩ : ∃ W0, W0 = (w.alloc (.cells #[.slice SA S.length SC, fv] 31)).alloc (.cells #[.bool del, .string nm, .slice RA x.length RC] 53) := ⟨_, rfl⟩
  have hx0 : Ext w W0 := by rw [hW0]; exact ((Ext.refl w).alloc _).alloc _
  have hr1 : Row W0 w.heap.size 31 [.slice SA S.length SC, fv] := by rw [hW0]; exact (Row.new w 31 _).alloc _
  have hr2 : Row W0 (w.heap.size + 1) 53 [.bool del, .string nm, .slice RA x.length RC] := by
    have h := Row.new (w.alloc (.cells #[.slice SA S.length SC, fv] 31)) 53 [.bool del, .string nm, .slice RA x.length RC]
    rw [World.size_alloc] at h
    rw [hW0]; exact h
  have HX0 := Lib.hid hx0
  have HS0 := Lib.hid (hS.up hx0.below)
  have HXR := Lib.hid ((hx.ext (Nat.le_refl _) hx0).more hx0.size)
  have HST := Lib.hid hs
  have a0 : W0.cell? ⟨w.heap.size, 0, none⟩ = some (.slice SA S.length SC) := hr1.cell 0
  have a1 : W0.cell? ⟨w.heap.size, 1, none⟩ = some fv := hr1.cell 1
  have a2 : W0.cell? ⟨w.heap.size + 1, 1, none⟩ = some (.string nm) := hr2.cell 1
  have a3 : W0.cell? ⟨w.heap.size + 1, 2, none⟩ = some (.slice RA x.length RC) := hr2.cell 2
  have z1 := hr1.lt
  have z2 := hr2.lt
  have HR1 := Lib.hid hr1
  have HR2 := Lib.hid hr2
  have HF := Lib.hid (r08find_any SA SC S fv nm W0 HS0.out hSl)
  clear hr1 hr2 hx0 hS hx hs
  go_enter Tryz.func35, Tryz.ntmps35
  go_upto_region 1 with (fail)
  rw [← hW0]
  clear hW0
  go_wp2_with fail
  refine HF.out.mono ?_
  rintro e w2 ⟨rfl, hx2⟩
  have HX2 := Lib.hid (HX0.out.trans hx2)
  have HS2 := Lib.hid (HS0.out.up hx2.below)
  have HXR2 := Lib.hid ((HXR.out.ext (Nat.le_refl _) hx2).more hx2.size)
  have HR1 := Lib.hid (HR1.out.up hx2.below)
  have HR2 := Lib.hid (HR2.out.up hx2.below)
  have a0 : w2.cell? ⟨w.heap.size, 0, none⟩ = some (.slice SA S.length SC) := HR1.out.cell 0
  have a3 : w2.cell? ⟨w.heap.size + 1, 2, none⟩ = some (.slice RA x.length RC) := HR2.out.cell 2
  have z1 := HR1.out.lt
  have z2 := HR2.out.lt
  clear hx2 HF a1 a2
  rcases find_cases S nm with ⟨h1, h2⟩ | ⟨i, hi, h1, -, h2⟩
  · have HV := Lib.hid (h2 x)
    rw [h1]
    have hlt : decide ((-1 : Int) < 0) = true := rfl
    clear h1 h2
    go_wp2_with fail
    go_ret
    exact ⟨by rw [HV.out]; rfl, HX2.out⟩
  rw [h1]
  have HCF := Lib.hid (h2 x)
  have hlt : decide ((i : Int) < 0) = false := decide_eq_false (by omega)
  obtain ⟨ab, ao, rfl, hab, hac⟩ := HS2.out (by intro h0; rw [h0] at hi; simp at hi)
  obtain ⟨KA, KC, d0, d1, hki⟩ := hac i hi
  have g1 : (0 : Int) ≤ (i : Int) := by omega
  have g2 : (i : Int) < (S.length : Int) := by omega
  clear h1 h2 hac
  generalize S[i].2 = ks at *
  generalize S[i].1 = sn at *
  have HKI := Lib.hid hki
  clear hki
  by_cases hl : x.length = ks.length
  rotate_left
  · have hne : ((ks.length : Int) != (x.length : Int)) = true := by
      have : (ks.length : Int) ≠ (x.length : Int) := by omega
      simpa using this
    have HCE : Hid (checkE ks x = 6) := by show _ = _; unfold checkE; rw [if_pos hl]
    clear hl
    go_wp2_with fail
    go_ret
    exact ⟨by rw [HCF.out, HCE.out]; rfl, HX2.out⟩
  have hne : ((ks.length : Int) != (x.length : Int)) = false := by
    have : (ks.length : Int) = (x.length : Int) := by omega
    simpa using this
  have HLL := Lib.hid hl
  clear hl
  go_wp2_with fail
  go_loopw [7] (fun c wx => ∃ k : Nat, k ≤ x.length ∧ c = .int .i64 k ∧ x.all RL.validV = (x.drop k).all RL.validV ∧ Ext w2 wx) (fun c _ => x.length - (intOf c).toNat)
  case atStart => exact ⟨0, Nat.zero_le _, rfl, rfl, Ext.refl _⟩
  case round =>
    obtain ⟨k, hk, rfl, hall, hxr⟩ := hrel
    have HALL := Lib.hid hall
    have HX3 := Lib.hid (HX2.out.trans hxr)
    have HXW := Lib.hid hxr
    have HR1 := Lib.hid (HR1.out.up hxr.below)
    have HR2 := Lib.hid (HR2.out.up hxr.below)
    have HKI := Lib.hid (Sl.more (Sl.below HKI.out hxr.below (Nat.le_refl _)) hxr.size)
    have HXR3 := Lib.hid ((HXR2.out.ext (Nat.le_refl _) hxr).more hxr.size)
    have a3 : wr.cell? ⟨w.heap.size + 1, 2, none⟩ = some (.slice RA x.length RC) := HR2.out.cell 2
    have z1 := HR1.out.lt
    have z2 := HR2.out.lt
    clear hall hxr a0 hlt
    by_cases hkl : k < x.length
    · obtain ⟨xb, xo, rfl, hxb, c1, c2, c3⟩ := slR_at HXR3.out hkl
      have q1 : (0 : Int) ≤ (k : Int) := by omega
      have q2 : (k : Int) < (ks.length : Int) := by have := HLL.out; omega
      have q3 : (k : Int) < (x.length : Int) := by omega
      have hw1 : IntKind.i64.wrap ((k : Int) + 1) = ((k + 1 : Nat) : Int) := by rw [IntWalk.i64_in _ (by omega)]; omega
      have HG := Lib.hid (fun w1 => r08good_any x[k] (HST.out _ (List.getElem_mem hkl)) w1)
      have HAS := Lib.hid (all_valid_step hkl)
      generalize x[k] = v at *
      cases hv : RL.validV v with
      | false =>
        have HAL : Hid (x.all RL.validV = false) := by show _ = _; rw [HALL.out, HAS.out, hv]; rfl
        have HCE : Hid (checkE ks x = 4) := by show _ = _; unfold checkE; rw [if_neg (by simpa using HLL.out), if_pos HAL.out]
        rw [hv] at HG
        clear hv hkl
        go_wp2_with fail
        refine (HG.out _).mono ?_
        rintro e w4 ⟨rfl, hx4⟩
        have HX4 := Lib.hid (HX3.out.trans hx4)
        clear hx4 HG
        go_wp2_with fail
        go_ret
        exact ⟨by rw [HCF.out, HCE.out]; rfl, HX4.out⟩
      | true =>
        have HAL : Hid (x.all RL.validV = (x.drop (k + 1)).all RL.validV) := by show _ = _; rw [HALL.out, HAS.out, hv]; rfl
        rw [hv] at HG
        have HKL := Lib.hid hkl
        clear hv hkl
        go_wp2_with fail
        refine (HG.out _).mono ?_
        rintro e w4 ⟨rfl, hx4⟩
        have HX4 := Lib.hid (HXW.out.trans hx4)
        clear hx4 HG c1 c2 c3
        go_wp2_with fail
        go_roundw
        case rel => exact ⟨k + 1, HKL.out, by go_num, HAL.out, HX4.out⟩
        case measure => have := HKL.out; simp [intOf]; omega
    · obtain rfl : k = x.length := by omega
      have HVV : Hid (x.all RL.validV = true) := by show _ = _; rw [HALL.out, List.drop_length]; rfl
      have q2 : decide ((x.length : Int) < (ks.length : Int)) = false := decide_eq_false (by have := HLL.out; omega)
      have q4 : decide (x.length < ks.length) = false := decide_eq_false (by have := HLL.out; omega)
      have q5 : ¬ x.length < ks.length := by have := HLL.out; omega
      clear hkl HALL
      go_wp2_with fail
      clear q2 q4 q5
      generalize hwo : wr = wo at *
      clear hwo
      go_loopw [8] (fun c wx => ∃ k : Nat, k ≤ x.length ∧ c = .int .i64 k ∧ (x.map (·.kind)).take k = ks.take k ∧ Ext wo wx) (fun c _ => x.length - (intOf c).toNat)
      case atStart => exact ⟨0, Nat.zero_le _, rfl, rfl, Ext.refl _⟩
      case round =>
        obtain ⟨k, hk, rfl, hall, hxr⟩ := hrel
        have HALL := Lib.hid hall
        have HX5 := Lib.hid (HX3.out.trans hxr)
        have HXW := Lib.hid hxr
        have HR2 := Lib.hid (HR2.out.up hxr.below)
        have HKI := Lib.hid (Sl.more (Sl.below HKI.out hxr.below (Nat.le_refl _)) hxr.size)
        have HXR3 := Lib.hid ((HXR3.out.ext (Nat.le_refl _) hxr).more hxr.size)
        have a3 : wr.cell? ⟨w.heap.size + 1, 2, none⟩ = some (.slice RA x.length RC) := HR2.out.cell 2
        have z2 := HR2.out.lt
        clear hall hxr
        by_cases hkl : k < x.length
        · obtain ⟨xb, xo, rfl, hxb, c1, c2, c3⟩ := slR_at HXR3.out hkl
          have hkk : k < ks.length := by have := HLL.out; omega
          obtain ⟨kb, ko, rfl, hkb, hkc⟩ := HKI.out (by intro h0; rw [List.map_eq_nil_iff] at h0; rw [h0] at hkk; simp at hkk)
          have kc := hkc k (.int .i64 ks[k]) (by rw [List.getElem?_map, List.getElem?_eq_getElem hkk]; rfl)
          have q1 : (0 : Int) ≤ (k : Int) := by omega
          have q2 : (k : Int) < (ks.length : Int) := by omega
          have q3 : (k : Int) < (x.length : Int) := by omega
          have hw1 : IntKind.i64.wrap ((k : Int) + 1) = ((k + 1 : Nat) : Int) := by rw [IntWalk.i64_in _ (by omega)]; omega
          have HKK : Hid (x[k].kind = ks[k] → (x.map (·.kind)).take (k + 1) = ks.take (k + 1)) := fun e => by
            rw [List.take_succ_eq_append_getElem (show k < (x.map (·.kind)).length by rw [List.length_map]; exact hkl), List.take_succ_eq_append_getElem hkk, HALL.out, List.getElem_map, e]
          have HKN : Hid (x[k].kind ≠ ks[k] → x.map (·.kind) ≠ ks) := fun e h => e (by
            have : (x.map (·.kind))[k]'(by rw [List.length_map]; exact hkl) = ks[k] := by simp only [h]
            simpa using this)
          generalize x[k] = v at *
          generalize ks[k] = kv at *
          by_cases hq : v.kind = kv
          · have hne2 : (v.kind != kv) = false := by simp [hq]
            have HNX := Lib.hid (HKK.out hq)
            have HKL := Lib.hid hkl
            clear hq hkl hkc hkk
            go_wp2_with fail
            go_quiet (fail)
            go_wp2_with fail
            go_roundw
            case rel => exact ⟨k + 1, HKL.out, by go_num, HNX.out, HXW.out.drewN _⟩
            case measure => have := HKL.out; simp [intOf]; omega
          · have hne2 : (v.kind != kv) = true := by simpa using hq
            have HCE : Hid (checkE ks x = 5) := by show _ = _; unfold checkE; rw [if_neg (by simpa using HLL.out), if_neg (by rw [HVV.out]; simp), if_neg (HKN.out hq)]
            clear hq hkl hkc hkk
            go_wp2_with fail
            go_quiet (fail)
            go_wp2_with fail
            go_ret
            exact ⟨by rw [HCF.out, HCE.out]; rfl, HX5.out.drewN _⟩
        · obtain rfl : k = x.length := by omega
          have HCE : Hid (checkE ks x = 0) := by
            show _ = _
            have h := HALL.out
            rw [List.take_of_length_le (by simp), List.take_of_length_le (by have := HLL.out; omega)] at h
            unfold checkE; rw [if_neg (by simpa using HLL.out), if_neg (by rw [HVV.out]; simp), if_pos h]
          have q2 : decide ((x.length : Int) < (ks.length : Int)) = false := decide_eq_false (by have := HLL.out; omega)
          have q4 : decide (x.length < ks.length) = false := decide_eq_false (by have := HLL.out; omega)
          have q5 : ¬ x.length < ks.length := by have := HLL.out; omega
          clear hkl HALL
          go_wp2_with fail
          go_ret
          exact ⟨by rw [HCF.out, HCE.out]; rfl, HX5.out⟩
end
section
open Go.RowKit Go.Sort Go.ChangeMaps Go.WideShapes

abbrev Fact := ByteArray × RL.R
def FactsM (B : Nat) (w : World) (A : Option Addr) (Fs : List Fact) : Prop :=
  Fs ≠ [] → ∃ b o, A = some ⟨b, o, none⟩ ∧ b < B ∧ ∀ i (h : i < Fs.length), ∃ RA RC, w.cell? ⟨b, o + i * 2, none⟩ = some (.string Fs[i].1) ∧ w.cell? ⟨b, o + i * 2 + 1, none⟩ = some (.slice RA Fs[i].2.length RC) ∧ SlR B w RA Fs[i].2
theorem FactsM.up {w w' : World} {A : Option Addr} {Fs : List Fact} (h : FactsM w.heap.size w A Fs) (hb : Below w.heap.size w w') : FactsM w'.heap.size w' A Fs := fun hn => by
  obtain ⟨b, o, e, hlt, hc⟩ := h hn
  exact ⟨b, o, e, Nat.lt_of_lt_of_le hlt hb.size, fun i hi => by
    obtain ⟨KA, KC, g0, g1, g2⟩ := hc i hi
    exact ⟨KA, KC, (hb.cell hlt).trans g0, (hb.cell hlt).trans g1, (Sl.below g2 hb (Nat.le_refl _)).more hb.size⟩⟩
def hasF (Fs : List Fact) (nm : ByteArray) (x : RL.R) : Bool := Fs.any fun f => decide (f.1 = nm) && decide (f.2 = x)
theorem hasF_iff {Fs : List Fact} {nm : ByteArray} {x : RL.R} : hasF Fs nm x = true ↔ (nm, x) ∈ Fs := by
  unfold hasF
  rw [List.any_eq_true]
  constructor
  · rintro ⟨f, hf, h⟩
    simp only [Bool.and_eq_true, decide_eq_true_eq] at h
    obtain ⟨a, b⟩ := f
    obtain ⟨h1, h2⟩ := h
    have h1 : a = nm := h1
    have h2 : b = x := h2
    rw [h1, h2] at hf
    exact hf
  · intro h
    exact ⟨_, h, by simp⟩
theorem facts_step {Fs : List Fact} {k : Nat} (h : k < Fs.length) (nm : ByteArray) (x : RL.R) : hasF (Fs.drop k) nm x = (decide (Fs[k].1 = nm) && decide (Fs[k].2 = x) || hasF (Fs.drop (k + 1)) nm x) := by
  rw [List.drop_eq_getElem_cons h]
  rfl

set_option maxHeartbeats 4000000 in
theorem r08Has_any (sv : Value) (FA : Option Addr) (FC : Nat) (Fs : List Fact) (nm : ByteArray) (RA : Option Addr) (RC : Nat) (x : RL.R) (w : World) (hF : FactsM w.heap.size w FA Fs) (hFl : Fs.length ≤ 1000000) (hFr : ∀ f ∈ Fs, f.2.length ≤ 1000000) (hx : SlR w.heap.size w RA x) (hxl : x.length ≤ 1000000) :
    Calls Tryz.prog 65 #[.agg #[sv, .slice FA Fs.length FC], .string nm, .slice RA x.length RC] w fun e w' => e = .returned (.bool (hasF Fs nm x)) ∧ Ext w w' := by
  obtain ⟨W0, hW0⟩ : ∃ W, W = w.alloc (.cells #[sv, .slice FA Fs.length FC] 31) := ⟨_, rfl⟩
  have HX0 : Hid (Ext w W0) := by show Ext _ _; rw [hW0]; exact (Ext.refl w).alloc _
  have HR : Hid (Row W0 w.heap.size 31 [sv, .slice FA Fs.length FC]) := by show Row _ _ _ _; rw [hW0]; exact Row.new w _ _
  have HF := Lib.hid (hF.up HX0.out.below)
  have HXR := Lib.hid ((hx.ext (Nat.le_refl _) HX0.out).more HX0.out.size)
  have HFR := Lib.hid hFr
  obtain ⟨g, hg⟩ : ∃ g, g = w.heap.size := ⟨_, rfl⟩
  rw [← hg] at HR
  clear hF hx hFr
  go_enter Tryz.func65, Tryz.ntmps65
  go_upto_region 1 with (fail)
  rw [← hW0, ← hg]
  clear hW0 hg
  go_wp2_with fail
  go_loopw [7] (fun c wx => ∃ k : Nat, k ≤ Fs.length ∧ c = .int .i64 k ∧ hasF Fs nm x = hasF (Fs.drop k) nm x ∧ Ext W0 wx) (fun c _ => Fs.length - (intOf c).toNat)
  case atStart => exact ⟨0, Nat.zero_le _, rfl, rfl, Ext.refl _⟩
  case round =>
    obtain ⟨k, hk, rfl, hall, hxr⟩ := hrel
    have HALL := Lib.hid hall
    have HXW := Lib.hid hxr
    have HX1 := Lib.hid (HX0.out.trans hxr)
    have HR := Lib.hid (HR.out.up hxr.below)
    have HF := Lib.hid (HF.out.up hxr.below)
    have HXR := Lib.hid ((HXR.out.ext (Nat.le_refl _) hxr).more hxr.size)
    have a0 : wr.cell? ⟨g, 1, none⟩ = some (.slice FA Fs.length FC) := HR.out.cell 1
    have z1 := HR.out.lt
    clear hall hxr
    by_cases hkl : k < Fs.length
    · obtain ⟨ab, ao, rfl, hab, hac⟩ := HF.out (by intro h0; rw [h0] at hkl; simp at hkl)
      obtain ⟨YA, YC, d0, d1, hy⟩ := hac k hkl
      have g1 : (0 : Int) ≤ (k : Int) := by omega
      have g2 : (k : Int) < (Fs.length : Int) := by omega
      have hw1 : IntKind.i64.wrap ((k : Int) + 1) = ((k + 1 : Nat) : Int) := by rw [IntWalk.i64_in _ (by omega)]; omega
      have HSS := Lib.hid (r08Same_any YA RA YC RC Fs[k].2 x wr hy HXR.out (HFR.out _ (List.getElem_mem hkl)) hxl)
      have HST := Lib.hid (facts_step hkl nm x)
      have hse := strEq_str Fs[k].1 nm
      generalize Fs[k].1 = sn at *
      generalize Fs[k].2 = y at *
      have HKL := Lib.hid hkl
      clear hac hy hkl
      by_cases hq : sn = nm
      · rw [decide_eq_true hq] at hse
        rw [decide_eq_true hq] at HST
        clear hq
        by_cases hr : y = x
        · rw [decide_eq_true hr] at HST HSS
          have HV : Hid (hasF Fs nm x = true) := by show _ = _; rw [HALL.out, HST.out]; rfl
          clear hr
          go_wp2_with fail
          refine HSS.out.mono ?_
          rintro e w2 ⟨rfl, hx2⟩
          have HX2 := Lib.hid (HX1.out.trans hx2)
          clear hx2 HSS
          go_wp2_with fail
          go_ret
          exact ⟨ret_bool HV.out.symm, HX2.out⟩
        · rw [decide_eq_false hr] at HST HSS
          have HV : Hid (hasF Fs nm x = hasF (Fs.drop (k + 1)) nm x) := by show _ = _; rw [HALL.out, HST.out]; rfl
          clear hr
          go_wp2_with fail
          refine HSS.out.mono ?_
          rintro e w2 ⟨rfl, hx2⟩
          have HX2 := Lib.hid (HXW.out.trans hx2)
          clear hx2 HSS
          go_wp2_with fail
          go_roundw
          case rel => exact ⟨k + 1, HKL.out, by go_num, HV.out, HX2.out⟩
          case measure => have := HKL.out; simp [intOf]; omega
      · rw [decide_eq_false hq] at hse
        have HV : Hid (hasF Fs nm x = hasF (Fs.drop (k + 1)) nm x) := by show _ = _; rw [HALL.out, HST.out, decide_eq_false hq]; rfl
        clear hq HSS
        go_wp2_with fail
        go_roundw
        case rel => exact ⟨k + 1, HKL.out, by go_num, HV.out, HXW.out⟩
        case measure => have := HKL.out; simp [intOf]; omega
    · obtain rfl : k = Fs.length := by omega
      have HV : Hid (hasF Fs nm x = false) := by show _ = _; rw [HALL.out, List.drop_length]; rfl
      have q2 : decide ((Fs.length : Int) < (Fs.length : Int)) = false := decide_eq_false (by omega)
      clear hkl
      go_wp2_with fail
      go_ret
      exact ⟨ret_bool HV.out.symm, HX1.out⟩
end
section
open Go.RowKit Go.Sort Go.ChangeMaps Go.WideShapes

structure FctCs (B : Nat) (w : World) (Fs : List Fact) (cs : List Value) : Prop where
  len : cs.length = Fs.length * 2
  one : ∀ u ∈ cs, u.oneCell' = true
  at_ : ∀ i (h : i < Fs.length), ∃ RA RC, cs[i * 2]? = some (.string Fs[i].1) ∧ cs[i * 2 + 1]? = some (.slice RA Fs[i].2.length RC) ∧ SlR B w RA Fs[i].2
section
variable {B : Nat} {w w' : World} {Fs : List Fact} {cs : List Value}
theorem FctCs.nil : FctCs B w [] [] := ⟨rfl, fun u hu => (by cases hu), fun i hi => absurd hi (Nat.not_lt_zero _)⟩
theorem FctCs.snoc (h : FctCs B w Fs cs) {nm : ByteArray} {x : RL.R} {RA : Option Addr} {RC : Nat} (hk : SlR B w RA x) : FctCs B w (Fs ++ [(nm, x)]) (cs ++ [.string nm, .slice RA x.length RC]) := by
  refine ⟨by rw [List.length_append, List.length_append, h.len, Nat.add_mul]; rfl, fun u hu => ?_, fun i hi => ?_⟩
  · rcases List.mem_append.1 hu with hu | hu
    · exact h.one u hu
    · simp at hu
      rcases hu with rfl | rfl <;> rfl
  · have hl := h.len
    by_cases hiu : i < Fs.length
    · obtain ⟨KA, KC, a, b, c⟩ := h.at_ i hiu
      refine ⟨KA, KC, ?_, ?_, ?_⟩
      · rw [List.getElem?_append_left (by omega), List.getElem_append_left hiu]; exact a
      · rw [List.getElem?_append_left (by omega), List.getElem_append_left hiu]; exact b
      · rw [List.getElem_append_left hiu]; exact c
    · rw [List.length_append] at hi
      have hi2 : i = Fs.length := by simp at hi; omega
      subst hi2
      refine ⟨RA, RC, ?_, ?_, ?_⟩
      · rw [List.getElem?_append_right (by omega), show Fs.length * 2 - cs.length = 0 by omega]; simp
      · rw [List.getElem?_append_right (by omega), show Fs.length * 2 + 1 - cs.length = 1 by omega]; simp
      · simpa using hk
theorem FctCs.lift {C : Nat} (h : FctCs B w Fs cs) (hb : Below C w w') (hB : B ≤ C) : FctCs B w' Fs cs :=
  ⟨h.len, h.one, fun i hi => by obtain ⟨RA, RC, a, b, c⟩ := h.at_ i hi; exact ⟨RA, RC, a, b, Sl.below c hb hB⟩⟩
theorem FactsM.of_cs {A : Option Addr} (h : FctCs B w Fs cs) (hs : Sl B w A cs) : FactsM B w A Fs := fun hn => by
  have hpos : 0 < Fs.length := List.length_pos_iff.2 hn
  have hl := h.len
  obtain ⟨b, o, rfl, hb, hc⟩ := hs (fun h0 => by rw [h0] at hl; simp only [List.length_nil] at hl; omega)
  exact ⟨b, o, rfl, hb, fun i hi => by
    obtain ⟨RA, RC, c0, c1, c3⟩ := h.at_ i hi
    exact ⟨RA, RC, hc _ _ c0, by rw [Nat.add_assoc]; exact hc _ _ c1, c3⟩⟩
theorem own_factsM {base n : Nat} {v : Value} (h : w.ownsRow base 85 2 v n cs) (hc : FctCs w.heap.size w Fs cs) :
    ∃ A C, v = .slice A Fs.length C ∧ Fs.length ≤ C ∧ C ≤ 9223372036854775807 ∧ FactsM w.heap.size w A Fs := by
  have hn : n = Fs.length := by have h1 := h.1; have h2 := hc.len; omega
  subst hn
  obtain ⟨A, C, e, h1, h2, h3⟩ := own_cut h (by decide)
  refine ⟨A, C, e, h1, h2, FactsM.of_cs hc (fun hne => ?_)⟩
  obtain ⟨b, rfl, hb, hc⟩ := h3 hne
  exact ⟨b, 0, rfl, hb, fun i u hu => by rw [Nat.zero_add]; exact hc i u hu⟩
end

theorem own_emptyF (w : World) (base : Nat) (e : TypeId) (size : Nat) (hb : base ≤ w.heap.size) : (w.alloc (.cells #[] e)).ownsRow base e size (.slice (some ⟨w.heap.size, 0, none⟩) 0 0) 0 [] :=
  ⟨by simp, .inr ⟨w.heap.size, 0, #[], rfl, hb, Row.new w e [], Nat.le_refl _, by simp [maxLen], by simp, by simp⟩⟩
theorem own_ne_rowF {w : World} {base : Nat} {e e' : TypeId} {size : Nat} {v : Value} {n : Nat} {xs ys : List Value} {g : Nat} (h : w.ownsRow base e size v n xs) (hr : Row w g e' ys) (hne : e ≠ e') : v.ownBlock ≠ some g := by
  rcases h.2 with ⟨rfl, _⟩ | ⟨g', cap, cur, rfl, _, hh, _⟩
  · simp [Value.ownBlock]
  · intro e1
    simp [Value.ownBlock] at e1
    subst e1
    have h9 := hh.symm.trans hr
    injection h9 with h9
    injection h9 with _ h9 _
    exact hne h9

theorem fctInfo : (Tryz.prog.info? 85).map (fun i => (i.zero, i.size, i.bytes)) = some (some (.agg #[.string ⟨#[]⟩, .slice none 0 0]), 2, 40) := by kernel_rfl
theorem runXFct {w : World} (ty : TypeId) (base : Nat) (v : Value) (n : Nat) (xs : List Value) (hown : w.ownsRow base 85 2 v n xs)
    (A : Option Addr) (m C : Nat) (news : List Value) (hl : news.length = m * 2) (hz : Sl w.heap.size w A news) (h1 : ∀ u ∈ news, u.oneCell' = true) (hn : n + m ≤ 1000000) (hbase : base ≤ w.heap.size) :
    ∃ v' w', (Builtin.append_ #[29, 29] ty #[v, .slice A m C]).run Tryz.prog w = .ok v' w' ∧ w'.ownsRow base 85 2 v' (n + m) (xs ++ news) ∧ w.grownBy w' v.ownBlock ∧ (∀ b, v'.ownBlock = some b → v.ownBlock = some b ∨ b = w.heap.size) := by
  obtain ⟨i0, hi0, hz0, hz1, hz2⟩ := info_parts fctInfo
  rcases A with _ | ad
  · have hy : m = 0 := by
      rcases Nat.eq_zero_or_pos m with h | h
      · exact h
      · obtain ⟨b, o, e', hb, hc⟩ := hz (fun h0 => by rw [h0] at hl; simp only [List.length_nil] at hl; omega)
        cases e'
    subst hy
    obtain rfl : news = [] := List.eq_nil_of_length_eq_zero (by rw [hl, Nat.zero_mul])
    exact ⟨v, w, run_append_none (P := Tryz.prog) w base 29 ty 85 i0 2 Tryz.underlying29 hi0 v n xs hown C, by simpa using hown, ⟨rfl, rfl, rfl, Nat.le_refl _, fun _ _ _ => rfl⟩, fun b hb => .inl hb⟩
  · have hcell : ∀ j u, news[j]? = some u → w.cell? (ad.add j) = some u := fun j u hu => by
      obtain ⟨b, o, e', hb, hc⟩ := hz (by intro h0; rw [h0] at hu; simp at hu)
      injection e' with e'
      subst e'
      rw [Addr.add_lit]
      exact hc j u hu
    obtain ⟨v', w', hrun, k2, k3, _, k5⟩ := run_append_own_at (P := Tryz.prog) w base 29 ty 85 i0 _ 2 40 Tryz.underlying29 hi0 hz0 hz1 hz2 rfl (by decide) v n xs hown ad m C news hl hcell h1 (by simp only [maxLen]; omega) (by omega) hbase
    exact ⟨v', w', hrun, k2, k3, fun b hb => by
      rcases k5 with k5 | k5
      · exact .inl (by rw [← k5]; exact hb)
      · rw [k5] at hb; injection hb with hb; exact .inr hb.symm⟩
theorem appXFct {w : World} {ops : Array Oper} {rest : List Oper} {o : Oper} {a : Act} {Q : Exit → Act → World → Prop} (hgd : o.guard = none) (s x : Operand)
    (ho : o.op = .call { callee := .builtin .append, args := #[s, x], argTypes := #[29, 29] })
    (base : Nat) (v : Value) (n : Nat) (xs : List Value) (hs0 : a.eval s = v) (hown : w.ownsRow base 85 2 v n xs)
    (A : Option Addr) (m C : Nat) (news : List Value) (hx : a.eval x = .slice A m C) (hl : news.length = m * 2) (hz : Sl w.heap.size w A news) (h1 : ∀ u ∈ news, u.oneCell' = true)
    (hn : n + m ≤ 1000000) (hbase : base ≤ w.heap.size)
    (h : ∀ v' w', w'.ownsRow base 85 2 v' (n + m) (xs ++ news) → w.grownBy w' v.ownBlock → (∀ b, v'.ownBlock = some b → v.ownBlock = some b ∨ b = w.heap.size) → wpList Tryz.prog ops Q rest (a.put o.dst v') w') : wpList Tryz.prog ops Q (o :: rest) a w := by
  refine wpList_plain hgd fun K hK => ?_
  obtain ⟨v', w', hrun, k2, k3, k4⟩ := runXFct o.type base v n xs hown A m C news hl hz h1 hn hbase
  unfold Oper.wp execOp
  simp only [ho, resolve, invoke, builtin, Sem.run_bind, Sem.run_pure, Result.andThen_ok, List.map_toArray, List.map_cons, List.map_nil, hs0, hx, hrun]
  exact hK _ _ (h v' w' k2 k3 k4)
theorem stepXFct {w : World} {ops : Array Oper} {o : Oper} {a : Act} {K : Act → World → Prop} {Q : Exit → Act → World → Prop} {E : Prop} (hgd : o.guard = none) (s x : Operand)
    (ho : o.op = .call { callee := .builtin .append, args := #[s, x], argTypes := #[29, 29] })
    (base : Nat) (v : Value) (n : Nat) (xs : List Value) (hs0 : a.eval s = v) (hown : w.ownsRow base 85 2 v n xs)
    (A : Option Addr) (m C : Nat) (news : List Value) (hx : a.eval x = .slice A m C) (hl : news.length = m * 2) (hz : Sl w.heap.size w A news) (h1 : ∀ u ∈ news, u.oneCell' = true)
    (hn : n + m ≤ 1000000) (hbase : base ≤ w.heap.size)
    (h : ∀ v' w', w'.ownsRow base 85 2 v' (n + m) (xs ++ news) → w.grownBy w' v.ownBlock → (∀ b, v'.ownBlock = some b → v.ownBlock = some b ∨ b = w.heap.size) → K (a.put o.dst v') w') :
    if Region.wanted o (yielded ops a.tmps) = true then Oper.wp Tryz.prog o a w K Q else E := by
  obtain ⟨v', w', hrun, k2, k3, k4⟩ := runXFct o.type base v n xs hown A m C news hl hz h1 hn hbase
  have hw : Region.wanted o (yielded ops a.tmps) = true := by unfold Region.wanted; rw [hgd]
  rw [if_pos hw]
  unfold Oper.wp execOp
  simp only [ho, resolve, invoke, builtin, Sem.run_bind, Sem.run_pure, Result.andThen_ok, List.map_toArray, List.map_cons, List.map_nil, hs0, hx, hrun]
  exact h v' w' k2 k3 k4

def refU (Fs : List Fact) (u : Upd) : List Fact × Bool :=
  if hasF Fs u.rel u.row = u.del then (if u.del then Fs.filter (fun f => !(decide (f.1 = u.rel) && decide (f.2 = u.row))) else Fs ++ [(u.rel, u.row)], true) else (Fs, false)
def refA (S : Sch) : List Fact → Nat → List Upd → Int × List Fact × Nat
  | Fs, n, [] => (0, Fs, n)
  | Fs, n, u :: us => if checkF S u.rel u.row = 0 then refA S (refU Fs u).1 (n + if (refU Fs u).2 = true then 1 else 0) us else (checkF S u.rel u.row, [], 0)
theorem refA_step (S : Sch) (Fs : List Fact) (n : Nat) (us : List Upd) (i : Nat) (h : i < us.length) (hc : checkF S us[i].rel us[i].row = 0) : refA S Fs n (us.drop i) = refA S (refU Fs us[i]).1 (n + if (refU Fs us[i]).2 = true then 1 else 0) (us.drop (i + 1)) := by
  rw [List.drop_eq_getElem_cons h]
  show (if checkF S us[i].rel us[i].row = 0 then _ else _) = _
  rw [if_pos hc]
theorem refA_bad (S : Sch) (Fs : List Fact) (n : Nat) (us : List Upd) (i : Nat) (h : i < us.length) (hc : checkF S us[i].rel us[i].row ≠ 0) : refA S Fs n (us.drop i) = (checkF S us[i].rel us[i].row, [], 0) := by
  rw [List.drop_eq_getElem_cons h]
  show (if checkF S us[i].rel us[i].row = 0 then _ else _) = _
  rw [if_neg hc]
theorem refU_len (Fs : List Fact) (u : Upd) : (refU Fs u).1.length ≤ Fs.length + 1 := by
  unfold refU
  split
  · cases u.del
    · simp
    · exact Nat.le_trans (List.length_filter_le _ _) (Nat.le_succ _)
  · exact Nat.le_succ _
def RefPost (B : Nat) (SA : Option Addr) (SC : Nat) (S : Sch) (FA : Option Addr) (FC : Nat) (Fs : List Fact) (us : List Upd) (w : World) (e : Ending) (w' : World) : Prop :=
  ((refA S Fs 0 us).1 ≠ 0 → e = .returned (.tuple #[.agg #[.slice SA S.length SC, .slice FA Fs.length FC], .int .i64 0, .int .i64 (refA S Fs 0 us).1])) ∧
  ((refA S Fs 0 us).1 = 0 → ∃ A C cs, e = .returned (.tuple #[.agg #[.slice SA S.length SC, .slice A (refA S Fs 0 us).2.1.length C], .int .i64 ((refA S Fs 0 us).2.2 : Nat), .int .i64 0]) ∧ FctCs B w (refA S Fs 0 us).2.1 cs ∧ w'.ownsRow w.heap.size 85 2 (.slice A (refA S Fs 0 us).2.1.length C) (refA S Fs 0 us).2.1.length cs) ∧ Below w.heap.size w w'
theorem filter_take {α : Type} (p : α → Bool) {l : List α} {k : Nat} (h : k < l.length) : (l.take (k + 1)).filter p = (l.take k).filter p ++ if p l[k] then [l[k]] else [] := by
  rw [List.take_succ_eq_append_getElem h, List.filter_append]
  congr 1
  cases hp : p l[k] <;> simp [hp]
end
end Go.Proofs.YtdadchpiibipoaaGreatDoor

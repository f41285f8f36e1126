/- Parts of the proof, merged: C28, C29, C30, C31, C32, F15, F18. -/
import Derived.Test.YtdadchpiibipoaaGreatDoorQ9
import Derived.Test.YtdadchpiibipoaaGreatDoorQ5
import Derived.Test.YtdadchpiibipoaaGreatDoorQ6
import Derived.Test.YtdadchpiibipoaaGreatDoorRows
import Derived.ProofKit
import Derived.OpenShut
import Derived.ShutString
import Derived.ChangeOld
import Derived.ChangeSame
import Derived.Lib.SmallJoins
import Derived.Deep.Slices
import Derived.Deep.Fields
import Derived.Test.YtdadchpiibipoaaGreatDoorQ3
import Derived.HandedShaped
import Derived.Lib.LaidU8
import Derived.Shelf.Vars
import Derived.MakeChecks
import Derived.ChangeMaps5

set_option maxRecDepth 100000
namespace Go.Proofs.YtdadchpiibipoaaGreatDoor
section
open Go.RowKit Go.Sort Go.ChangeMaps Go.WideShapes

def aS : ByteArray := ⟨#[115]⟩
def aR : ByteArray := ⟨#[114]⟩
def schA : Sch := [(aS, [1]), (aR, [1, 2])]
def schB : Sch := [(aR, [1, 2]), (aS, [1])]
def oneA : RL.R := [⟨1, 1, ⟨#[]⟩⟩, ⟨2, 0, ⟨#[97]⟩⟩]
def twoA : RL.R := [⟨1, 2, ⟨#[]⟩⟩]
def usA : List Upd := [⟨false, aR, oneA⟩, ⟨false, aS, twoA⟩, ⟨false, aR, oneA⟩]
def contA : Cont := updC (updC (fun _ => []) aR [oneA]) aS [twoA]
theorem errS_A : errS schA = 0 := by decide +kernel
theorem errS_B : errS schB = 0 := by decide +kernel
theorem stepA1 : stepU schA (fun _ => []) ⟨false, aR, oneA⟩ = (0, updC (fun _ => []) aR [oneA], true) := by
  have h1 : checkF schA aR oneA = 0 := by decide +kernel
  unfold stepU
  rw [if_pos h1]
  rfl
theorem stepA2 : stepU schA (updC (fun _ => []) aR [oneA]) ⟨false, aS, twoA⟩ = (0, contA, true) := by
  have h1 : checkF schA aS twoA = 0 := by decide +kernel
  have h2 : updC (fun _ => []) aR [oneA] aS = [] := by decide +kernel
  unfold stepU
  rw [if_pos h1, h2]
  rfl
theorem stepA3 : stepU schA contA ⟨false, aR, oneA⟩ = (0, contA, false) := by
  have h1 : checkF schA aR oneA = 0 := by decide +kernel
  have h2 : contA aR = [oneA] := by decide +kernel
  have h3 : updF false [oneA] oneA = (0, [oneA], false) := by decide +kernel
  unfold stepU
  show (if checkF schA aR oneA = 0 then (if (updF false (contA aR) oneA).1 = 0 then (0, if (updF false (contA aR) oneA).2.2 = true then updC contA aR (updF false (contA aR) oneA).2.1 else contA, (updF false (contA aR) oneA).2.2) else ((updF false (contA aR) oneA).1, contA, false)) else (checkF schA aR oneA, contA, false) : Int × Cont × Bool) = _
  rw [if_pos h1, h2, h3]
  rfl
theorem apply_A : applyF schA (fun _ => []) 0 usA = (0, contA, 2) := by
  unfold usA applyF
  rw [stepA1]
  show applyF schA (updC (fun _ => []) aR [oneA]) 1 [⟨false, aS, twoA⟩, ⟨false, aR, oneA⟩] = _
  unfold applyF
  rw [stepA2]
  show applyF schA contA 2 [⟨false, aR, oneA⟩] = _
  unfold applyF
  rw [stepA3]
  rfl
theorem rows_A : rowsF schA contA = 2 := by decide +kernel
def textA : ByteArray := ⟨#[114, 101, 108, 97, 116, 105, 111, 110, 32, 114, 32, 105, 110, 116, 32, 115, 116, 114, 10, 40, 49, 44, 32, 34, 97, 34, 41, 10, 114, 101, 108, 97, 116, 105, 111, 110, 32, 115, 32, 105, 110, 116, 10, 40, 50, 41, 10]⟩
theorem itoa1 : Lib.itoa 1 = [49] := by
  have : Lib.itoa 1 = Lib.decDigits 1 := rfl
  rw [this, dd_small (by decide)]; rfl
theorem itoa2 : Lib.itoa 2 = [50] := by
  have : Lib.itoa 2 = Lib.decDigits 2 := rfl
  rw [this, dd_small (by decide)]; rfl
theorem text_one : textR oneA = [40, 49, 44, 32, 34, 97, 34, 41] := by
  have h1 : textV ⟨1, 1, ⟨#[]⟩⟩ = [49] := (textV_int (by decide) rfl).trans itoa1
  have h2 : textV ⟨2, 0, ⟨#[97]⟩⟩ = [34, 97, 34] := by
    rw [textV_str (by decide) rfl]; decide
  unfold textR oneA
  rw [commaV_cons, h1]
  show 40 :: (([49] : List UInt8) ++ tailV [⟨2, 0, ⟨#[97]⟩⟩] ++ [41]) = _
  unfold tailV
  rw [List.flatMap_cons, h2]
  rfl
theorem text_two : textR twoA = [40, 50, 41] := by
  have h1 : textV ⟨1, 2, ⟨#[]⟩⟩ = [50] := (textV_int (by decide) rfl).trans itoa2
  unfold textR twoA
  rw [commaV_cons, h1]
  rfl
theorem text_A : textL schB contA = textA.data.toList := by
  have h1 : contA aR = [oneA] := by decide +kernel
  have h2 : contA aS = [twoA] := by decide +kernel
  have e : textL schB contA = textRel aR [1, 2] [oneA] ++ (textRel aS [1] [twoA] ++ []) := by
    unfold textL schB
    rw [List.flatMap_cons, List.flatMap_cons, List.flatMap_nil]
    show textRel aR [1, 2] (contA aR) ++ (textRel aS [1] (contA aS) ++ []) = _
    rw [h1, h2]
  rw [e]
  have r1 : rowsW [oneA] = [40, 49, 44, 32, 34, 97, 34, 41, 10] := by unfold rowsW; rw [List.flatMap_cons, text_one]; rfl
  have r2 : rowsW [twoA] = [40, 50, 41, 10] := by unfold rowsW; rw [List.flatMap_cons, text_two]; rfl
  unfold textRel
  rw [r1, r2]
  decide +kernel
theorem fit_A : ContFit schB contA := by
  have h1 : contA aR = [oneA] := by decide +kernel
  have h2 : contA aS = [twoA] := by decide +kernel
  have hv : ∀ v : RL.V, v ∈ oneA ∨ v ∈ twoA → RL.validV v = true ∧ VInt v := by
    intro v hv
    rcases hv with hv | hv
    · unfold oneA at hv; simp at hv
      rcases hv with rfl | rfl
      · exact ⟨by decide, by constructor <;> decide⟩
      · exact ⟨by decide, by constructor <;> decide⟩
    · unfold twoA at hv; simp at hv
      subst hv
      exact ⟨by decide, by constructor <;> decide⟩
  intro p hp
  unfold schB at hp
  simp at hp
  rcases hp with rfl | rfl
  · show RL.SS (contA aR) ∧ (contA aR).length ≤ 4096 ∧ ∀ x ∈ contA aR, AllV x ∧ checkE [1, 2] x = 0
    rw [h1]
    refine ⟨List.pairwise_singleton _ _, by decide, fun x hx => ?_⟩
    rw [List.mem_singleton.1 hx]
    exact ⟨fun v h => hv v (.inl h), by decide +kernel⟩
  · show RL.SS (contA aS) ∧ (contA aS).length ≤ 4096 ∧ ∀ x ∈ contA aS, AllV x ∧ checkE [1] x = 0
    rw [h2]
    refine ⟨List.pairwise_singleton _ _, by decide, fun x hx => ?_⟩
    rw [List.mem_singleton.1 hx]
    exact ⟨fun v h => hv v (.inr h), by decide +kernel⟩
theorem asc_B : (schB.map Prod.fst).Pairwise fun a b => RL.cmpS a b < 0 := by
  have h : RL.cmpS aR aS < 0 := by decide +kernel
  exact List.Pairwise.cons (fun b hb => by simp at hb; subst hb; exact h) (List.pairwise_singleton _ _)
theorem parse_A : ∃ r, parseD textA.data.toList = (0, r) ∧ r.S = schB ∧ ∀ p ∈ schB, r.F p.1 = contA p.1 := by
  have h := parseD_text errS_B asc_B fit_A (by rw [text_A]; decide)
  rwa [text_A] at h
theorem names_A : NamesOf schA [aR, aS] := ⟨List.Perm.swap _ _ _, asc_B⟩
theorem text_D {ns : List ByteArray} (h : NamesOf schA ns) : textD schA contA ns = textA.data.toList := by
  rw [h.eq names_A, ← text_A]
  have : textD schB contA (schB.map Prod.fst) = textL schB contA := textL_D (errS_mem errS_B).2.1
  rw [← this]
  rfl
theorem same_A : sameC schA contA contA = true := by
  unfold sameC
  rw [List.all_eq_true]
  exact fun p _ => by simp
theorem same_A0 : sameC schA contA (fun _ => []) = false := by decide +kernel
end
section
open Go.RowKit Go.Sort Go.ChangeMaps Go.WideShapes

theorem DbM.perm {P : Nat → Prop} {S S' : Sch} {w : World} {m : Value} {F : Cont} (h : DbM P S w m F) (hp : S.Perm S') : DbM P S' w m F := by
  obtain ⟨b, D, h1, h0, h2, h3, h4, h5⟩ := h
  exact ⟨b, D, h1, h0, h2, h3.trans hp.length_eq, fun k hk => by obtain ⟨p, a, e⟩ := h4 k hk; exact ⟨p, hp.mem_iff.1 a, e⟩, fun p hm => h5 p (hp.mem_iff.2 hm)⟩

set_option maxHeartbeats 4000000 in
theorem l08awake_any (w : World) (hT : Tabs w) : Calls Tryz.prog 10 #[] w fun e w' => e = .returned (.bool true) ∧ Below w.heap.size w w' := by
  obtain ⟨W1, hW1⟩ : ∃ W1, W1 = ((w.alloc (.cells #[.int .i64 1] 3)).alloc (.cells #[.int .i64 1, .int .i64 2] 3)).alloc (.cells #[.string ⟨#[115]⟩, .slice (some ⟨w.heap.size, 0, none⟩) 1 1, .string ⟨#[114]⟩, .slice (some ⟨w.heap.size + 1, 0, none⟩) 2 2] 62) := ⟨_, rfl⟩
  have hx1 : Ext w W1 := by rw [hW1]; exact (((Ext.refl w).alloc _).alloc _).alloc _
  have r1 : Row W1 w.heap.size 3 [.int .i64 1] := by rw [hW1]; exact ((Row.new w 3 _).alloc _).alloc _
  have r2 : Row W1 (w.heap.size + 1) 3 [.int .i64 1, .int .i64 2] := by
    have h := (Row.new (w.alloc (.cells #[.int .i64 1] 3)) 3 [.int .i64 1, .int .i64 2]).alloc (.cells #[.string ⟨#[115]⟩, .slice (some ⟨w.heap.size, 0, none⟩) 1 1, .string ⟨#[114]⟩, .slice (some ⟨w.heap.size + 1, 0, none⟩) 2 2] 62)
    rw [World.size_alloc] at h
    rw [hW1]; exact h
  have r3 : Row W1 (w.heap.size + 1 + 1) 62 [.string ⟨#[115]⟩, .slice (some ⟨w.heap.size, 0, none⟩) 1 1, .string ⟨#[114]⟩, .slice (some ⟨w.heap.size + 1, 0, none⟩) 2 2] := by
    have h := Row.new ((w.alloc (.cells #[.int .i64 1] 3)).alloc (.cells #[.int .i64 1, .int .i64 2] 3)) 62 [.string ⟨#[115]⟩, .slice (some ⟨w.heap.size, 0, none⟩) 1 1, .string ⟨#[114]⟩, .slice (some ⟨w.heap.size + 1, 0, none⟩) 2 2]
    rw [World.size_alloc, World.size_alloc] at h
    rw [hW1]; exact h
  have hschs : SchsM W1.heap.size W1 (some ⟨w.heap.size + 1 + 1, 0, none⟩) schA := fun _ => ⟨w.heap.size + 1 + 1, 0, rfl, r3.lt, fun i hi => by
    have hi2 : i = 0 ∨ i = 1 := by simp [schA] at hi; omega
    rcases hi2 with rfl | rfl
    · exact ⟨some ⟨w.heap.size, 0, none⟩, 1, r3.cell 0, r3.cell 1, r1.sl⟩
    · exact ⟨some ⟨w.heap.size + 1, 0, none⟩, 2, r3.cell 2, r3.cell 3, r2.sl⟩⟩
  have HN := Lib.hid (ctNew_any (fun _ => True) (some ⟨w.heap.size + 1 + 1, 0, none⟩) 2 schA W1 (fun _ _ => trivial) hschs (fun p hp => by simp [schA] at hp; rcases hp with rfl | rfl <;> exact ⟨by decide, by decide⟩) (by decide))
  have HX1 := Lib.hid hx1.below
  have HT := Lib.hid (fun (w' : World) (hb : Below w.heap.size w w') => hT.up hb)
  clear hx1 r1 r2 r3 hschs hT
  go_enter Tryz.func10, Tryz.ntmps10
  go_wp2_with fail
  rw [← hW1]
  clear hW1
  refine HN.out.mono ?_
  rintro e w1 ⟨h1, -, hb1⟩
  obtain ⟨m1, rfl, hdb⟩ := h1 errS_A
  obtain ⟨bd, rfl⟩ := hdb.form
  have HB1 := Lib.hid (Below.then HX1.out hb1 HX1.out.size)
  have HDB := Lib.hid hdb
  clear h1 hb1 hdb HN
  go_upto_region 3 with (fail)
  obtain ⟨gD, hgD⟩ : ∃ g, g = w1.heap.size := ⟨_, rfl⟩
  obtain ⟨gO, hgO⟩ : ∃ g, g = w1.heap.size + 1 := ⟨_, rfl⟩
  obtain ⟨W2, hW2⟩ : ∃ W, W = (w1.alloc (.cells #[.map (some bd)] 28)).alloc (.cells #[.int .i64 1, .int .i64 1, .string ⟨#[]⟩, .int .i64 2, .int .i64 0, .string ⟨#[97]⟩] 82) := ⟨_, rfl⟩
  rw [← hW2, ← hgO, ← hgD]
  have HRD : Hid (Row W2 gD 28 [.map (some bd)]) := by show Row _ _ _ _; rw [hW2, hgD]; exact (Row.new w1 _ _).alloc _
  have HRO : Hid (Row W2 gO 82 (rcells oneA)) := by
    have h := Row.new (w1.alloc (.cells #[.map (some bd)] 28)) 82 (rcells oneA)
    rw [World.size_alloc] at h
    show Row _ _ _ _
    rw [hW2, hgO]; exact h
  have hb2 : Below w1.heap.size w1 W2 := by rw [hW2]; exact (((Ext.refl w1).alloc _).alloc _).below
  have HB2 := Lib.hid (Below.then HB1.out hb2 HB1.out.size)
  have HDB2 := Lib.hid (HDB.out.up hb2)
  clear hW2 hgO hgD hb2 HDB HX1
  obtain ⟨W3, hW3⟩ : ∃ W, W = (W2.alloc (.cells #[.int .i64 1, .int .i64 2, .string ⟨#[]⟩] 82)).alloc (.cells #[.bool false, .string ⟨#[114]⟩, .slice (some ⟨gO, 0, none⟩) 2 2, .bool false, .string ⟨#[115]⟩, .slice (some ⟨W2.heap.size, 0, none⟩) 1 1, .bool false, .string ⟨#[114]⟩, .slice (some ⟨gO, 0, none⟩) 2 2] 53) := ⟨_, rfl⟩
  have hb3 : Below W2.heap.size W2 W3 := by rw [hW3]; exact (((Ext.refl W2).alloc _).alloc _).below
  have hrx : Row W3 W2.heap.size 82 (rcells twoA) := by rw [hW3]; exact (Row.new W2 82 (rcells twoA)).alloc _
  have hru : Row W3 (W2.heap.size + 1) 53 [.bool false, .string ⟨#[114]⟩, .slice (some ⟨gO, 0, none⟩) 2 2, .bool false, .string ⟨#[115]⟩, .slice (some ⟨W2.heap.size, 0, none⟩) 1 1, .bool false, .string ⟨#[114]⟩, .slice (some ⟨gO, 0, none⟩) 2 2] := by
    have h := Row.new (W2.alloc (.cells #[.int .i64 1, .int .i64 2, .string ⟨#[]⟩] 82)) 53 [.bool false, .string ⟨#[114]⟩, .slice (some ⟨gO, 0, none⟩) 2 2, .bool false, .string ⟨#[115]⟩, .slice (some ⟨W2.heap.size, 0, none⟩) 1 1, .bool false, .string ⟨#[114]⟩, .slice (some ⟨gO, 0, none⟩) 2 2]
    rw [World.size_alloc] at h
    rw [hW3]; exact h
  have hro := (HRO.out.up hb3).sl
  have hups : UpdsM W3.heap.size W3 (some ⟨W2.heap.size + 1, 0, none⟩) usA := fun _ => ⟨W2.heap.size + 1, 0, rfl, hru.lt, fun i hi => by
    have hi2 : i = 0 ∨ i = 1 ∨ i = 2 := by simp [usA] at hi; omega
    rcases hi2 with rfl | rfl | rfl
    · exact ⟨some ⟨gO, 0, none⟩, 2, hru.cell 0, hru.cell 1, hru.cell 2, hro⟩
    · exact ⟨some ⟨W2.heap.size, 0, none⟩, 1, hru.cell 3, hru.cell 4, hru.cell 5, hrx.sl⟩
    · exact ⟨some ⟨gO, 0, none⟩, 2, hru.cell 6, hru.cell 7, hru.cell 8, hro⟩⟩
  have HAP := Lib.hid (ctApply_any (fun _ => True) schA (.map (some bd)) (fun _ => []) (some ⟨W2.heap.size + 1, 0, none⟩) 3 usA W3 (HDB2.out.up hb3) (fun _ _ => trivial) hups (fun u hu => by
    simp [usA] at hu
    rcases hu with rfl | rfl | rfl
    · exact ⟨by decide, by decide, fun v hv => by simp [oneA] at hv; rcases hv with rfl | rfl <;> decide⟩
    · exact ⟨by decide, by decide, fun v hv => by simp [twoA] at hv; subst hv; decide⟩
    · exact ⟨by decide, by decide, fun v hv => by simp [oneA] at hv; rcases hv with rfl | rfl <;> decide⟩) (by decide) (by decide))
  have HB3 := Lib.hid (Below.then HB2.out hb3 HB2.out.size)
  have HRD3 := Lib.hid (HRD.out.up hb3)
  have HDB3 := Lib.hid (HDB2.out.up hb3)
  have c0 : W2.cell? ⟨gD, 0, none⟩ = some (.map (some bd)) := HRD.out.cell 0
  have c1 := HRD.out.lt
  have HW3 := Lib.hid hW3
  clear hW3 hb3 hrx hru hro hups HRO HB2 HDB2
  go_wp2_with fail
  rw [← HW3.out]
  refine HAP.out.mono ?_
  rintro e w4 ⟨h1, -, hb4⟩
  rw [apply_A] at h1
  obtain ⟨mx, rfl, hdx⟩ := h1 rfl
  obtain ⟨bx, rfl⟩ := hdx.form
  have HDX := Lib.hid hdx
  have HDB4 := Lib.hid (HDB3.out.up hb4)
  have HRD4 := Lib.hid (HRD3.out.up hb4)
  have HB4 := Lib.hid (Below.then HB3.out hb4 HB3.out.size)
  clear h1 hb4 hdx HAP HW3 HDB3 HRD3 HB3 c0 c1 HRD
  go_upto_region 5 with (fail)
  obtain ⟨gX, hgX⟩ : ∃ g, g = w4.heap.size := ⟨_, rfl⟩
  obtain ⟨W5, hW5⟩ : ∃ W, W = w4.alloc (.cells #[.map (some bx)] 28) := ⟨_, rfl⟩
  rw [← hW5, ← hgX]
  have hb5 : Below w4.heap.size w4 W5 := by rw [hW5]; exact ((Ext.refl w4).alloc _).below
  have HRX : Hid (Row W5 gX 28 [.map (some bx)]) := by show Row _ _ _ _; rw [hW5, hgX]; exact Row.new w4 _ _
  have HDX5 := Lib.hid (HDX.out.up hb5)
  have HDB5 := Lib.hid (HDB4.out.up hb5)
  have HRD5 := Lib.hid (HRD4.out.up hb5)
  have HB5 := Lib.hid (Below.then HB4.out hb5 HB4.out.size)
  have HPA := Lib.hid (ctParse_any textA (by decide) W5 (HT.out W5 HB5.out))
  clear hW5 hgX hb5 HDX HDB4 HRD4 HB4
  go_wp2_with fail
  refine HPA.out.mono ?_
  rintro e w6 ⟨h1, -, hb6⟩
  obtain ⟨r, hr1, hr2, hr3⟩ := parse_A
  rw [hr1] at h1
  obtain ⟨my, rfl, hmy⟩ := h1 rfl
  have hdy : DbM (fun c => W5.heap.size ≤ c) schA w6 my contA := by
    rcases hmy with ⟨h, -⟩ | ⟨-, h⟩
    · have h : r.S = [] := h
      rw [hr2] at h; cases h
    · have h : DbM (fun c => W5.heap.size ≤ c) r.S w6 my r.F := h
      rw [hr2] at h
      exact (h.congr hr3).perm (List.Perm.swap _ _ _)
  obtain ⟨by_, rfl⟩ := hdy.form
  have HDY := Lib.hid hdy
  have HDX6 := Lib.hid (HDX5.out.up hb6)
  have HDB6 := Lib.hid (HDB5.out.up hb6)
  have HRD6 := Lib.hid (HRD5.out.up hb6)
  have HRX6 := Lib.hid (HRX.out.up hb6)
  have HB6 := Lib.hid (Below.then HB5.out hb6 HB5.out.size)
  clear h1 hmy hdy hb6 hr1 hr2 hr3 HDX5 HDB5 HRD5 HRX HB5 HPA
  go_upto_region 6 with (fail)
  obtain ⟨gY, hgY⟩ : ∃ g, g = w6.heap.size := ⟨_, rfl⟩
  obtain ⟨W7, hW7⟩ : ∃ W, W = w6.alloc (.cells #[.map (some by_)] 28) := ⟨_, rfl⟩
  rw [← hW7, ← hgY]
  have hb7 : Below w6.heap.size w6 W7 := by rw [hW7]; exact ((Ext.refl w6).alloc _).below
  have HRY : Hid (Row W7 gY 28 [.map (some by_)]) := by show Row _ _ _ _; rw [hW7, hgY]; exact Row.new w6 _ _
  have HDY7 := Lib.hid (HDY.out.up hb7)
  have HDX7 := Lib.hid (HDX6.out.up hb7)
  have HDB7 := Lib.hid (HDB6.out.up hb7)
  have HRD7 := Lib.hid (HRD6.out.up hb7)
  have HRX7 := Lib.hid (HRX6.out.up hb7)
  have HB7 := Lib.hid (Below.then HB6.out hb7 HB6.out.size)
  have HND : Hid (schA.map Prod.fst).Nodup := (errS_mem errS_A).2.1
  have HC1 := Lib.hid (ctRows_any W7 HDX7.out HND.out (by decide))
  rw [rows_A] at HC1
  have c0 : W7.cell? ⟨gX, 0, none⟩ = some (.map (some bx)) := HRX7.out.cell 0
  have c1 := HRX7.out.lt
  clear hW7 hgY hb7 HDY HDX6 HDB6 HRD6 HRX6 HB6
  go_wp2_with fail
  refine HC1.out.mono ?_
  rintro e w8 ⟨rfl, hb8⟩
  have HB8 := Lib.hid (Below.then HB7.out hb8 HB7.out.size)
  have HX8 := Lib.hid (HDX7.out.up hb8)
  have HY8 := Lib.hid (HDY7.out.up hb8)
  have HD8 := Lib.hid (HDB7.out.up hb8)
  have HRX8 := Lib.hid (HRX7.out.up hb8)
  have HRY8 := Lib.hid (HRY.out.up hb8)
  have HRD8 := Lib.hid (HRD7.out.up hb8)
  have hfit : RowsFit schA contA := fun p hp => by
    have hp2 : p ∈ schB := (List.Perm.swap _ _ _ : schA.Perm schB).mem_iff.1 hp
    obtain ⟨f1, f2, f3⟩ := fit_A p hp2
    obtain ⟨-, k6, -⟩ := (errS_mem errS_A).2.2 p hp
    refine ⟨k6, f2, fun x hx => ?_⟩
    obtain ⟨f4, f5⟩ := f3 x hx
    have hxl : x.length = p.2.length := by
      unfold checkE at f5
      split at f5
      · cases f5
      · rename_i h; simpa using h
    refine ⟨by omega, fun v hv => ⟨(f4 v hv).2.1, (f4 v hv).2.2, ?_⟩⟩
    rcases validV_cases (f4 v hv).1 with ⟨-, e⟩ | ⟨-, -, e⟩
    · rw [e]; exact Nat.zero_le _
    · omega
  have HTX := Lib.hid (ctText_any w8 HX8.out HND.out (by decide) (fun p hp => by simp [schA] at hp; rcases hp with rfl | rfl <;> decide) (fun p hp x hx v hv => ((hfit p hp).2.2 x hx).2 v hv) hfit (HT.out w8 HB8.out))
  have c0 : w8.cell? ⟨gX, 0, none⟩ = some (.map (some bx)) := HRX8.out.cell 0
  have c1 := HRX8.out.lt
  clear hb8 hfit HC1 HDY7 HDX7 HDB7 HRD7 HRX7 HRY HB7
  go_wp2_with fail
  refine HTX.out.mono ?_
  rintro e w9 ⟨ns, hns, rfl, hb9⟩
  rw [text_D hns, toB_mk]
  have HB9 := Lib.hid (Below.then HB8.out hb9 HB8.out.size)
  have HX9 := Lib.hid (HX8.out.up hb9)
  have HY9 := Lib.hid (HY8.out.up hb9)
  have HD9 := Lib.hid (HD8.out.up hb9)
  have HRX9 := Lib.hid (HRX8.out.up hb9)
  have HRY9 := Lib.hid (HRY8.out.up hb9)
  have HRD9 := Lib.hid (HRD8.out.up hb9)
  have HE1 := Lib.hid (ctEqual_any w9 HX9.out HY9.out HND.out)
  rw [same_A] at HE1
  have c0 : w9.cell? ⟨gX, 0, none⟩ = some (.map (some bx)) := HRX9.out.cell 0
  have c1 := HRX9.out.lt
  have c2 : w9.cell? ⟨gY, 0, none⟩ = some (.map (some by_)) := HRY9.out.cell 0
  have c3 := HRY9.out.lt
  clear hns hb9 HTX HX8 HY8 HD8 HRX8 HRY8 HRD8 HB8
  have hta : (textA.toList == [114, 101, 108, 97, 116, 105, 111, 110, 32, 114, 32, 105, 110, 116, 32, 115, 116, 114, 10, 40, 49, 44, 32, 34, 97, 34, 41, 10, 114, 101, 108, 97, 116, 105, 111, 110, 32, 115, 32, 105, 110, 116, 10, 40, 50, 41, 10]) = true := by rw [strEq_data]; exact decide_eq_true rfl
  have htb : ([114, 101, 108, 97, 116, 105, 111, 110, 32, 114, 32, 105, 110, 116, 32, 115, 116, 114, 10, 40, 49, 44, 32, 34, 97, 34, 41, 10, 114, 101, 108, 97, 116, 105, 111, 110, 32, 115, 32, 105, 110, 116, 10, 40, 50, 41, 10] == textA.toList) = true := by rw [show textA.toList = textA.data.toList from ByteArray.toList_eq textA]; decide
  go_wp2_with fail
  refine HE1.out.mono ?_
  rintro e wa ⟨rfl, hba⟩
  have HBA := Lib.hid (Below.then HB9.out hba HB9.out.size)
  have HXA := Lib.hid (HX9.out.up hba)
  have HDA := Lib.hid (HD9.out.up hba)
  have HRXA := Lib.hid (HRX9.out.up hba)
  have HRDA := Lib.hid (HRD9.out.up hba)
  have HE2 := Lib.hid (ctEqual_any wa HXA.out HDA.out HND.out)
  rw [same_A0] at HE2
  have c0 : wa.cell? ⟨gX, 0, none⟩ = some (.map (some bx)) := HRXA.out.cell 0
  have c1 := HRXA.out.lt
  have c2 : wa.cell? ⟨gD, 0, none⟩ = some (.map (some bd)) := HRDA.out.cell 0
  have c3 := HRDA.out.lt
  clear hba HE1 HX9 HY9 HD9 HRX9 HRY9 HRD9
  go_wp2_with fail
  refine HE2.out.mono ?_
  rintro e wb ⟨rfl, hbb⟩
  have HBB := Lib.hid (Below.then HBA.out hbb HBA.out.size)
  clear hbb
  go_wp2_with fail
  go_ret
  exact ⟨rfl, HBB.out⟩
end
section
open Go.RowKit Go.Sort Go.ChangeMaps Go.WideShapes

set_option maxHeartbeats 4000000 in
theorem l08Few_any (SA : Option Addr) (SC sl : Nat) (A : Option Addr) (C : Nat) (us : List Upd) (w : World) (hU : UpdsM w.heap.size w A us) (hul : us.length ≤ 9223372036854775807) (hok : ∀ u ∈ us, u.rel.size ≤ 9223372036854775807 ∧ u.row.length ≤ 9223372036854775807) :
    Calls Tryz.prog 11 #[.slice SA sl SC, .slice A us.length C] w fun e w' => e = .returned (.bool (decide (sl ≤ 20) && fewB us)) ∧ Ext w w' := by
  have HU := Lib.hid hU
  have HO := Lib.hid hok
  clear hU hok
  go_enter Tryz.func11, Tryz.ntmps11
  go_wp2_with fail
  go_loopw [5] (fun c wx => ∃ k : Nat, k ≤ us.length ∧ k ≤ 60 ∧ c = .int .i64 k ∧ (us.take k).all fewU = true ∧ Ext w wx) (fun c _ => us.length - (intOf c).toNat)
  case atStart => exact ⟨0, Nat.zero_le _, by decide, rfl, rfl, Ext.refl _⟩
  case round =>
    obtain ⟨k, hk, hk6, rfl, hall, hxr⟩ := hrel
    have HALL := Lib.hid hall
    have HXR := Lib.hid hxr
    clear hall hxr
    by_cases hkl : k < us.length
    · have r1 : (k : Int) < (us.length : Int) := by omega
      by_cases hk60 : k < 60
      · have r2 : (k : Int) < 60 := by omega
        obtain ⟨b, o, rfl, hb, hc⟩ := HU.out (by intro h0; rw [h0] at hkl; simp at hkl)
        obtain ⟨RA, RC, c0, c1, c2, -⟩ := hc k hkl
        have c1 := (HXR.out.cell hb).trans c1
        have c2 := (HXR.out.cell hb).trans c2
        have b1 := Nat.lt_of_lt_of_le hb HXR.out.size
        have r0 : (0 : Int) ≤ (k : Int) := by omega
        have r3 : IntKind.i64.wrap ((k : Int) + 1) = ((k + 1 : Nat) : Int) := by rw [IntWalk.i64_in _ (by omega)]; omega
        have HT := Lib.hid (all_take_succ fewU us k hkl)
        have HBD := Lib.hid (all_bad fewU us k 60 hkl hk60)
        obtain ⟨o1, o2⟩ := HO.out us[k] (List.getElem_mem hkl)
        clear c0 hc
        have HF : Hid (fewU us[k] = (decide (us[k].row.length ≤ 20) && decide (us[k].rel.size ≤ 100))) := rfl
        generalize us[k] = u at *
        by_cases h20 : 20 < u.row.length
        · have q1 : (20 : Int) < (u.row.length : Int) := by omega
          have HB : Hid (fewB us = false) := by
            show fewB us = false
            unfold fewB
            rw [HBD.out (by rw [HF.out, decide_eq_false (by omega)]; rfl)]
            rfl
          clear h20
          go_wp2
          exact bodyPost_ret (v := .bool false) (by simp [results, Tryz.results11, go_sem]) rfl ⟨by rw [HB.out, Bool.and_false], HXR.out⟩
        · have q1 : ¬ (20 : Int) < (u.row.length : Int) := by omega
          by_cases h100 : 100 < u.rel.size
          · have q2 : (100 : Int) < (u.rel.size : Int) := by omega
            have HB : Hid (fewB us = false) := by
              show fewB us = false
              unfold fewB
              rw [HBD.out (by rw [HF.out, decide_eq_false (show ¬ u.rel.size ≤ 100 by omega), Bool.and_false])]
              rfl
            clear h100
            go_wp2
            exact bodyPost_ret (v := .bool false) (by simp [results, Tryz.results11, go_sem]) rfl ⟨by rw [HB.out, Bool.and_false], HXR.out⟩
          · have q2 : ¬ (100 : Int) < (u.rel.size : Int) := by omega
            have HK : Hid ((us.take (k + 1)).all fewU = true) := by
              show _ = true
              rw [HT.out, HALL.out, HF.out, decide_eq_true (by omega), decide_eq_true (by omega)]
              rfl
            clear h20 h100
            go_wp2
            go_roundw
            case rel => exact ⟨k + 1, hkl, hk60, by go_num, HK.out, HXR.out⟩
            case measure => simp [intOf]; omega
      · have r2 : ¬ (k : Int) < 60 := by omega
        obtain rfl : k = 60 := by omega
        have q : decide ((us.length : Int) ≤ 60) = false := decide_eq_false (by omega)
        have q3 : ¬ (us.length : Int) ≤ 60 := by omega
        have HB : Hid (fewB us = false) := by
          show fewB us = false
          unfold fewB
          rw [decide_eq_false (show ¬ us.length ≤ 60 by omega), Bool.and_false]
        by_cases h20 : sl ≤ 20
        · have z1 : decide ((sl : Int) ≤ 20) = true := decide_eq_true (by omega)
          have z2 : (sl : Int) ≤ 20 := by omega
          clear h20
          go_wp2
          exact bodyPost_ret (v := .bool false) (by simp [results, Tryz.results11, go_sem]) rfl ⟨by rw [HB.out, Bool.and_false], HXR.out⟩
        have z1 : decide ((sl : Int) ≤ 20) = false := decide_eq_false (by omega)
        have z2 : ¬ (sl : Int) ≤ 20 := by omega
        clear h20
        go_wp2
        exact bodyPost_ret (v := .bool false) (by simp [results, Tryz.results11, go_sem]) rfl ⟨by rw [HB.out, Bool.and_false], HXR.out⟩
    · obtain rfl : k = us.length := by omega
      have r1 : ¬ (us.length : Int) < (us.length : Int) := by omega
      have q : decide ((us.length : Int) ≤ 60) = true := decide_eq_true (by omega)
      have q3 : (us.length : Int) ≤ 60 := by omega
      have HB : Hid (fewB us = true) := by
        show fewB us = true
        unfold fewB
        rw [List.take_of_length_le hk6, decide_eq_true hk6, Bool.and_true]
        have h := HALL.out
        rwa [List.take_length] at h
      by_cases h20 : sl ≤ 20
      · have z1 : decide ((sl : Int) ≤ 20) = true := decide_eq_true (by omega)
        have z2 : (sl : Int) ≤ 20 := by omega
        have HR : Hid ((decide (sl ≤ 20) && fewB us) = true) := by show _ = _; rw [HB.out, decide_eq_true h20]; rfl
        clear h20
        go_wp2
        exact bodyPost_ret (v := .bool true) (by simp [results, Tryz.results11, go_sem]) rfl ⟨by rw [HR.out], HXR.out⟩
      have z1 : decide ((sl : Int) ≤ 20) = false := decide_eq_false (by omega)
      have z2 : ¬ (sl : Int) ≤ 20 := by omega
      have HR : Hid ((decide (sl ≤ 20) && fewB us) = false) := by show _ = _; rw [decide_eq_false h20]; rfl
      clear h20
      go_wp2
      exact bodyPost_ret (v := .bool false) (by simp [results, Tryz.results11, go_sem]) rfl ⟨by rw [HR.out], HXR.out⟩
end
section
open Go.RowKit Go.Sort Go.ChangeMaps Go.WideShapes

def tailU (A : Option Addr) (k cap : Nat) : Option Addr := if cap = k then A else A.map (·.add (k * 3))
theorem slTailU (A : Option Addr) (len cap k : Nat) (h : k ≤ len) (W : World) : (Instr.slice 23 (.slice A len cap) (some (.int .i64 (k : Int))) none none).run Tryz.prog W = .ok (.slice (tailU A k cap) (len - k) (cap - k)) W := by
  simp [Instr.slice, go_sem, h, run_underlying Tryz.underlying23, Tryz.sizeOf53]
  simp [tailU, sliced, Result.andThen]
theorem slHeadU (A : Option Addr) (len cap k : Nat) (h : k ≤ cap) (W : World) : (Instr.slice 23 (.slice A len cap) none (some (.int .i64 (k : Int))) none).run Tryz.prog W = .ok (.slice A k cap) W := by
  simp [Instr.slice, go_sem, h, run_underlying Tryz.underlying23, Tryz.sizeOf53]
theorem UpdsM.head {B : Nat} {w : World} {A : Option Addr} {us : List Upd} (h : UpdsM B w A us) (k : Nat) : UpdsM B w A (us.take k) := fun hn => by
  obtain ⟨b, o, e, hb, hc⟩ := h (by intro h0; rw [h0] at hn; simp at hn)
  refine ⟨b, o, e, hb, fun i hi => ?_⟩
  rw [List.length_take] at hi
  have := hc i (by omega)
  rw [List.getElem_take]
  exact this
theorem UpdsM.tail {B : Nat} {w : World} {A : Option Addr} {us : List Upd} {cap : Nat} (h : UpdsM B w A us) (hc : us.length ≤ cap) (k : Nat) : UpdsM B w (tailU A k cap) (us.drop k) := fun hn => by
  have hk : k < us.length := by
    rcases Nat.lt_or_ge k us.length with h1 | h1
    · exact h1
    · rw [List.drop_eq_nil_iff.2 h1] at hn; exact absurd rfl hn
  obtain ⟨b, o, rfl, hb, hcl⟩ := h (by intro h0; rw [h0] at hk; simp at hk)
  refine ⟨b, o + k * 3, ?_, hb, fun i hi => ?_⟩
  · unfold tailU
    rw [if_neg (by omega)]
    simp [Addr.add_lit]
  · rw [List.length_drop] at hi
    obtain ⟨RA, RC, a1, a2, a3, a4⟩ := hcl (k + i) (by omega)
    rw [List.getElem_drop]
    have e : o + (k + i) * 3 = o + k * 3 + i * 3 := by omega
    rw [e] at a1 a2 a3
    exact ⟨RA, RC, a1, a2, a3, a4⟩
theorem UpdsM.keepB {B : Nat} {w w' : World} {A : Option Addr} {us : List Upd} (h : UpdsM B w A us) (hk : ∀ p : Addr, p.block < B → w'.cell? p = w.cell? p) : UpdsM B w' A us := fun hn => by
  obtain ⟨b, o, e, hb, hc⟩ := h hn
  exact ⟨b, o, e, hb, fun i hi => by
    obtain ⟨RA, RC, a1, a2, a3, a4⟩ := hc i hi
    exact ⟨RA, RC, (hk ⟨b, _, none⟩ hb).trans a1, (hk ⟨b, _, none⟩ hb).trans a2, (hk ⟨b, _, none⟩ hb).trans a3, Sl.keep a4 hk⟩⟩
theorem UpdsM.up {w w' : World} {A : Option Addr} {us : List Upd} (h : UpdsM w.heap.size w A us) (hb : Below w.heap.size w w') : UpdsM w'.heap.size w' A us := (h.keepB fun _ hp => hb.cell hp).more hb.size
theorem SchsM.keepB {B : Nat} {w w' : World} {A : Option Addr} {X : Sch} (h : SchsM B w A X) (hk : ∀ p : Addr, p.block < B → w'.cell? p = w.cell? p) : SchsM B w' A X := fun hn => by
  obtain ⟨b, o, e, hb, hc⟩ := h hn
  exact ⟨b, o, e, hb, fun i hi => by
    obtain ⟨KA, KC, a1, a2, a3⟩ := hc i hi
    exact ⟨KA, KC, (hk ⟨b, _, none⟩ hb).trans a1, (hk ⟨b, _, none⟩ hb).trans a2, Sl.keep a3 hk⟩⟩
theorem SchsM.up {w w' : World} {A : Option Addr} {X : Sch} (h : SchsM w.heap.size w A X) (hb : Below w.heap.size w w') : SchsM w'.heap.size w' A X := (h.keepB fun _ hp => hb.cell hp).more hb.size

theorem applyF_from (X : Sch) : ∀ (us : List Upd) (F : Cont) (n : Nat), (applyF X F n us).1 = (applyF X F 0 us).1 ∧ ((applyF X F n us).1 = 0 → (applyF X F n us).2.1 = (applyF X F 0 us).2.1 ∧ (applyF X F n us).2.2 = n + (applyF X F 0 us).2.2)
  | [], F, n => ⟨rfl, fun _ => ⟨rfl, rfl⟩⟩
  | u :: t, F, n => by
    by_cases h0 : (stepU X F u).1 = 0
    · have e : ∀ n, applyF X F n (u :: t) = applyF X (stepU X F u).2.1 (if (stepU X F u).2.2 then n + 1 else n) t := fun n => by
        show (if (stepU X F u).1 = 0 then _ else _) = _
        rw [if_pos h0]
      rw [e n, e 0]
      obtain ⟨a1, a2⟩ := applyF_from X t (stepU X F u).2.1 (if (stepU X F u).2.2 then n + 1 else n)
      obtain ⟨b1, b2⟩ := applyF_from X t (stepU X F u).2.1 (if (stepU X F u).2.2 then 0 + 1 else 0)
      refine ⟨a1.trans b1.symm, fun h => ?_⟩
      obtain ⟨a3, a4⟩ := a2 h
      obtain ⟨b3, b4⟩ := b2 (b1.trans (a1.symm.trans h))
      refine ⟨a3.trans b3.symm, ?_⟩
      rw [a4, b4]
      split <;> omega
    · have e : ∀ n, applyF X F n (u :: t) = ((stepU X F u).1, F, 0) := fun n => by
        show (if (stepU X F u).1 = 0 then _ else _) = _
        rw [if_neg h0]
      rw [e n, e 0]
      exact ⟨rfl, fun h => absurd h h0⟩
theorem applyF_bad (X : Sch) : ∀ (us vs : List Upd) (F : Cont) (n : Nat), (applyF X F n us).1 ≠ 0 → (applyF X F n (us ++ vs)).1 = (applyF X F n us).1
  | [], vs, F, n, h => absurd rfl h
  | u :: t, vs, F, n, h => by
    by_cases h0 : (stepU X F u).1 = 0
    · have e : ∀ l, applyF X F n (u :: l) = applyF X (stepU X F u).2.1 (if (stepU X F u).2.2 then n + 1 else n) l := fun l => by
        show (if (stepU X F u).1 = 0 then _ else _) = _
        rw [if_pos h0]
      rw [List.cons_append, e, e]
      rw [e] at h
      exact applyF_bad X t vs _ _ h
    · have e : ∀ l, applyF X F n (u :: l) = ((stepU X F u).1, F, 0) := fun l => by
        show (if (stepU X F u).1 = 0 then _ else _) = _
        rw [if_neg h0]
      rw [List.cons_append, e, e]
theorem applyF_count (X : Sch) : ∀ (us : List Upd) (F : Cont) (n : Nat), (applyF X F n us).2.2 ≤ n + us.length
  | [], F, n => Nat.le_refl _
  | u :: t, F, n => by
    by_cases h0 : (stepU X F u).1 = 0
    · have e : applyF X F n (u :: t) = applyF X (stepU X F u).2.1 (if (stepU X F u).2.2 then n + 1 else n) t := by
        show (if (stepU X F u).1 = 0 then _ else _) = _
        rw [if_pos h0]
      rw [e]
      have := applyF_count X t (stepU X F u).2.1 (if (stepU X F u).2.2 then n + 1 else n)
      rw [List.length_cons]
      by_cases hb : (stepU X F u).2.2 = true
      · rw [if_pos hb] at this ⊢; omega
      · rw [if_neg hb] at this ⊢; omega
    · have e : applyF X F n (u :: t) = ((stepU X F u).1, F, 0) := by
        show (if (stepU X F u).1 = 0 then _ else _) = _
        rw [if_neg h0]
      rw [e]
      exact Nat.zero_le _
theorem ApPost.shape {P : Nat → Prop} {S : Sch} {r : Int × Cont × Nat} {w w' : World} {e : Ending} (h : ApPost P S r w e w') : ∃ (mx : Option Nat) (c : Nat), e = .returned (.tuple #[.agg #[.map mx], .int .i64 (c : Nat), .int .i64 r.1]) ∧ (r.1 = 0 → c = r.2.2 ∧ DbM P S w' (.map mx) r.2.1) ∧ (r.1 ≠ 0 → c = 0 ∧ mx = none) ∧ Below w.heap.size w w' := by
  obtain ⟨h1, h2, hb⟩ := h
  by_cases h0 : r.1 = 0
  · obtain ⟨m, rfl, hd⟩ := h1 h0
    obtain ⟨b, rfl⟩ := hd.form
    exact ⟨some b, _, by rw [h0], fun _ => ⟨rfl, hd⟩, fun h => absurd h0 h, hb⟩
  · exact ⟨none, 0, h2 h0, fun h => absurd h h0, fun _ => ⟨rfl, rfl⟩, hb⟩
theorem sameC_self (S : Sch) (F : Cont) : sameC S F F = true := by
  unfold sameC
  rw [List.all_eq_true]
  exact fun p _ => by simp
end
section
open Go.RowKit Go.Sort Go.ChangeMaps Go.WideShapes

set_option maxHeartbeats 8000000 in
theorem l08Batches_any (SA : Option Addr) (SC : Nat) (S : Sch) (A : Option Addr) (C : Nat) (us : List Upd) (z : Nat) (w : World) (hS : SchsM w.heap.size w SA S) (hSo : SchsOk S) (hSl : S.length ≤ 9223372036854775807)
    (hU : UpdsM w.heap.size w A us) (hUo : ∀ u ∈ us, u.rel.size ≤ 9223372036854775807 ∧ u.row.length ≤ 9223372036854775807 ∧ ∀ v ∈ u.row, v.str.size ≤ 9223372036854775807) (hUl : us.length ≤ C) (hUc : C ≤ 9223372036854775807) (hz : z < 256) (hT : Tabs w) :
    Calls Tryz.prog 4 #[.slice SA S.length SC, .slice A us.length C, .int .u8 (z : Nat)] w fun e w' => e = .returned (.bool true) ∧ Below w.heap.size w w' := by
  have HAW := Lib.hid (l08awake_any w hT)
  have HFW := Lib.hid (fun (w1 : World) (hb : Below w.heap.size w w1) => l08Few_any SA SC S.length A C us w1 (hU.up hb) (by omega) fun u hu => ⟨(hUo u hu).1, (hUo u hu).2.1⟩)
  have HS := Lib.hid hS
  have HSO := Lib.hid hSo
  have HU := Lib.hid hU
  have HUO := Lib.hid hUo
  have HSL := Lib.hid hSl
  clear hS hSo hU hUo hT hSl
  go_enter Tryz.func4, Tryz.ntmps4
  go_wp2_with fail
  refine HAW.out.mono ?_
  rintro e w1 ⟨rfl, hb1⟩
  have HB1 := Lib.hid hb1
  clear hb1 HAW
  go_wp2_with fail
  refine (HFW.out w1 HB1.out).mono ?_
  rintro e w2 ⟨rfl, hx2⟩
  have HB2 := Lib.hid (HB1.out.trans (hx2.below.mono HB1.out.size))
  clear hx2
  cases hfew : (decide (S.length ≤ 20) && fewB us) with
  | false =>
    clear hfew
    go_wp2_with fail
    go_ret
    exact ⟨rfl, HB2.out⟩
  | true =>
  rw [Bool.and_eq_true, decide_eq_true_eq, fewB_iff] at hfew
  obtain ⟨hs20, hu60, hfit⟩ := hfew
  have HFIT := Lib.hid hfit
  have HN := Lib.hid (ctNew_any (fun _ => True) SA SC S w2 (fun _ _ => trivial) (HS.out.up HB2.out) HSO.out (by omega))
  have HL : Hid (S.length ≤ 20 ∧ us.length ≤ 60) := ⟨hs20, hu60⟩
  clear hfit hs20 HB1 HFW
  go_wp2_with fail
  refine HN.out.mono ?_
  rintro e w3 ⟨h1, h2, hb3⟩
  have HB3 := Lib.hid (HB2.out.trans (hb3.mono HB2.out.size))
  by_cases he : errS S = 0
  rotate_left
  · obtain rfl := h2 he
    have hne : (errS S != 0) = true := by simpa using he
    have HBA := Lib.hid (fun (o : Obj) => HB3.out.alloc HB3.out.size o)
    clear h1 h2 hb3 he HN
    generalize errS S = ce at *
    go_wp2_with fail
    go_ret
    exact ⟨rfl, HBA.out _⟩
  obtain ⟨md, rfl, hdb⟩ := h1 he
  obtain ⟨bd, rfl⟩ := hdb.form
  have HND : Hid (S.map Prod.fst).Nodup := (errS_mem he).2.1
  have HDB := Lib.hid hdb
  obtain ⟨k, hk⟩ : ∃ k, k = z % (us.length + 1) := ⟨_, rfl⟩
  have hku : k ≤ us.length := by rw [hk]; have := Nat.mod_lt z (show 0 < us.length + 1 by omega); omega
  have hw1 : IntKind.i64.wrap ((us.length : Int) + 1) = ((us.length + 1 : Nat) : Int) := by rw [IntWalk.i64_in _ (by omega)]; omega
  have hw2 : IntKind.i64.wrap (z : Int) = (z : Int) := IntWalk.i64_in _ (by omega)
  have hm1 : Int.tmod (z : Int) ((us.length : Int) + 1) = (k : Int) := by rw [hk, show ((us.length : Int) + 1) = ((us.length + 1 : Nat) : Int) by omega, Int.ofNat_tmod]
  have hm2 : Int.tmod (z : Int) ((us.length + 1 : Nat) : Int) = (k : Int) := by rw [hk, Int.ofNat_tmod]
  have hw3 : IntKind.i64.wrap (k : Int) = (k : Int) := IntWalk.i64_in _ (by omega)
  have hnz : ¬ ((us.length : Int) + 1 = 0) := by omega
  have HK := Lib.hid hk
  clear h1 h2 hb3 hdb he HN hk
  go_upto_region 9 with (fail)
  obtain ⟨g7, hg7⟩ : ∃ g, g = w3.heap.size := ⟨_, rfl⟩
  obtain ⟨W4, hW4⟩ : ∃ W, W = w3.alloc (.cells #[.map (some bd)] 28) := ⟨_, rfl⟩
  rw [← hW4, ← hg7]
  have hb4 : Below w3.heap.size w3 W4 := by rw [hW4]; exact ((Ext.refl w3).alloc _).below
  have HR7 : Hid (Row W4 g7 28 [.map (some bd)]) := by show Row _ _ _ _; rw [hW4, hg7]; exact Row.new w3 _ _
  have HD4 := Lib.hid (HDB.out.up hb4)
  have HB4 := Lib.hid (HB3.out.trans (hb4.mono HB3.out.size))
  have HUO2 : Hid (∀ u ∈ us, UpdOk u) := fun u hu => ⟨(HUO.out u hu).1, by have := (HFIT.out u hu).1; omega, (HUO.out u hu).2.2⟩
  obtain ⟨r1, hr1⟩ : ∃ r, r = applyF S (fun _ => []) 0 us := ⟨_, rfl⟩
  obtain ⟨r2, hr2⟩ : ∃ r, r = applyF S (fun _ => []) 0 (us.take k) := ⟨_, rfl⟩
  obtain ⟨r3, hr3⟩ : ∃ r, r = applyF S r2.2.1 0 (us.drop k) := ⟨_, rfl⟩
  have HAP1 : Hid (Calls Tryz.prog 19 #[.agg #[.map (some bd)], .slice A us.length C] W4 fun e w' => ∃ (mx : Option Nat) (c : Nat), e = .returned (.tuple #[.agg #[.map mx], .int .i64 (c : Nat), .int .i64 r1.1]) ∧ (r1.1 = 0 → c = r1.2.2 ∧ DbM (fun _ => True) S w' (.map mx) r1.2.1) ∧ (r1.1 ≠ 0 → c = 0 ∧ mx = none) ∧ Below W4.heap.size W4 w') := by
    rw [hr1]
    exact (ctApply_any (fun _ => True) S (.map (some bd)) (fun _ => []) A C us W4 HD4.out (fun _ _ => trivial) (HU.out.up HB4.out) HUO2.out (by omega) (by have := HL.out; omega)).mono fun e w' h => h.shape
  have HRE1 := Lib.hid hr1
  have HRE2 := Lib.hid hr2
  have HRE3 := Lib.hid hr3
  have c0 : W4.cell? ⟨g7, 0, none⟩ = some (.map (some bd)) := HR7.out.cell 0
  have c1 := HR7.out.lt
  clear hW4 hg7 hb4 hr1 hr2 hr3 HDB HB3
  go_wp2_with fail
  refine HAP1.out.mono ?_
  rintro e w4 ⟨ma, na, rfl, hok1, hbad1, hb5⟩
  obtain ⟨g10, hg10⟩ : ∃ g, g = w4.heap.size := ⟨_, rfl⟩
  obtain ⟨W5, hW5⟩ : ∃ W, W = w4.alloc (.cells #[.map ma] 28) := ⟨_, rfl⟩
  have hb6 : Below w4.heap.size w4 W5 := by rw [hW5]; exact ((Ext.refl w4).alloc _).below
  have hb7 := hb5.trans (hb6.mono hb5.size)
  have HR10 : Hid (Row W5 g10 28 [.map ma]) := by show Row _ _ _ _; rw [hW5, hg10]; exact Row.new w4 _ _
  have HOK1 : Hid (r1.1 = 0 → na = r1.2.2 ∧ DbM (fun _ => True) S W5 (.map ma) r1.2.1) := fun h => ⟨(hok1 h).1, (hok1 h).2.up hb6⟩
  have HBAD1 : Hid (r1.1 ≠ 0 → na = 0) := fun h => (hbad1 h).1
  have HB5 := Lib.hid (HB4.out.trans (hb7.mono HB4.out.size))
  have HD5 := Lib.hid (HD4.out.up hb7)
  have HR75 := Lib.hid (HR7.out.up hb7)
  have hsl := slHeadU A us.length C k (by omega)
  have hst := slTailU A us.length C k hku
  have HS10 : Hid (∀ V, Below W5.heap.size W5 V → V.cell? ⟨g7, 0, none⟩ = some (.map (some bd))) := fun V hb => (HR75.out.up hb).cell 0
  have hkl : (us.take k).length = k := by rw [List.length_take]; omega
  have hdl : (us.drop k).length = us.length - k := List.length_drop
  have HAP2 : Hid (∀ V, Below W5.heap.size W5 V → ∀ (P : Nat → Prop), (∀ b, b < W5.heap.size → P b) → (∀ b, V.heap.size ≤ b → P b) → Calls Tryz.prog 19 #[.agg #[.map (some bd)], .slice A k C] V fun e w' => ∃ (mx : Option Nat) (c : Nat), e = .returned (.tuple #[.agg #[.map mx], .int .i64 (c : Nat), .int .i64 r2.1]) ∧ (r2.1 = 0 → c = r2.2.2 ∧ DbM P S w' (.map mx) r2.2.1) ∧ (r2.1 ≠ 0 → c = 0 ∧ mx = none) ∧ Below V.heap.size V w') := fun V hb P h1 h2 => by
    rw [HRE2.out]
    have h := ctApply_any P S (.map (some bd)) (fun _ => []) A C (us.take k) V ((HD5.out.weak fun b hb _ => h1 b hb).up hb) h2 ((HU.out.up (HB5.out.trans (hb.mono HB5.out.size))).head k) (fun u hu => HUO2.out u (List.mem_of_mem_take hu)) (by rw [hkl]; omega) (by have := HL.out; omega)
    rw [hkl] at h
    exact h.mono fun e w' h => h.shape
  have HW5 := Lib.hid hW5
  have HG10 := Lib.hid hg10
  have hg75 : g7 < W5.heap.size := HR75.out.lt
  clear hW5 hg10 hb6 hb7 hb5 hok1 hbad1 HAP1 c0 c1 hm1 hm2 hw1 hw2 hw3 hnz hkl hdl
  go_upto_region 10 with (fail)
  rw [← HW5.out, ← HG10.out]
  clear HW5 HG10
  go_cut [13, 14, 15] from 45 to 53 (fun q1 q2 q3 wx => ∃ (g : Nat) (mx : Option Nat) (c : Nat), q1 = .pointer (some ⟨g, 0, none⟩) ∧ q2 = .int .i64 (c : Nat) ∧ q3 = .int .i64 r2.1 ∧ W5.heap.size ≤ g ∧ Row wx g 28 [.map mx] ∧ (r2.1 = 0 → c = r2.2.2 ∧ DbM (fun _ => True) S wx (.map mx) r2.2.1) ∧ (r2.1 ≠ 0 → c = 0 ∧ mx = none) ∧ Below W5.heap.size W5 wx)
  case first =>
    refine wp_region_held_drew (S := (fun w' => w'.cell? ⟨g7, 0, none⟩ = some (.map (some bd)))) (by kernel_rfl) (HS10.out W5.drew (Below.refl _ _).drew) (fun hHeld => ?_)
    obtain ⟨V0, hV0⟩ : ∃ V, V = W5.drew := ⟨_, rfl⟩
    have HV : Hid (Below W5.heap.size W5 V0) := by show Below _ _ _; rw [hV0]; exact (Below.refl _ _).drew
    rw [← hV0] at hHeld ⊢
    clear hV0
    refine takeOp (i := 0) (v := ?_) (some 46) rfl rfl (by kernel_rfl) (by kernel_rfl) (by kernel_rfl) (fun _ _ _ h => h) (Or.inl ⟨by rfl, ?_⟩) (by assumption) ?_
    rotate_left 1
    · (intro w0 hSw; (try dsimp only at hSw); go_simp; try (with_reducible rfl))
    try simp only [Act.put, List.setIfInBounds_toArray, List.set_cons_succ, List.set_cons_zero]
    refine takeOp (i := 1) (v := ?_) (some 47) rfl rfl (by kernel_rfl) (by kernel_rfl) (by kernel_rfl) (fun _ _ _ h => h) (Or.inl ⟨by rfl, ?_⟩) (by assumption) ?_
    rotate_left 1
    · (intro w0 hSw; (try dsimp only at hSw); go_simp; try (with_reducible rfl))
    try simp only [Act.put, List.setIfInBounds_toArray, List.set_cons_succ, List.set_cons_zero]
    refine takeOp (i := 2) (v := ?_) (some 48) rfl rfl (by kernel_rfl) (by kernel_rfl) (by kernel_rfl) (fun _ _ _ h => h) (Or.inl ⟨by rfl, ?_⟩) (by assumption) ?_
    rotate_left 1
    · (intro w0 hSw; (try dsimp only at hSw); go_simp; try (with_reducible rfl))
    try simp only [Act.put, List.setIfInBounds_toArray, List.set_cons_succ, List.set_cons_zero]
    refine takeOp (i := 3) (v := ?_) (some 49) rfl rfl (by kernel_rfl) (by kernel_rfl) (by kernel_rfl) (fun _ _ _ h => h) (Or.inl ⟨by rfl, ?_⟩) (by assumption) ?_
    rotate_left 1
    · (intro w0 hSw; (try dsimp only at hSw); go_simp; try (with_reducible rfl))
    try simp only [Act.put, List.setIfInBounds_toArray, List.set_cons_succ, List.set_cons_zero]
    refine wpAnyH_ready (rs := [4, 9]) (by kernel_rfl) (by simp) ?_
    refine (AllReadyH.cons rfl (fun K hK => ?_) (AllReadyH.cons rfl (fun K hK => ?_) AllReadyH.nil))
    · go_simp
      go_simp
      refine (HAP2.out V0 HV.out (fun _ => True) (fun _ _ => trivial) (fun _ _ => trivial)).mono ?_
      rintro e V1 ⟨mx, c, rfl, hok, hbad, hb⟩
      have HOKX := Lib.hid hok
      have HBADX := Lib.hid hbad
      clear hok hbad
      go_simp
      have HWIN : Hid (WinP V0.heap.size V1 V1) := WinP.refl _ _
      have HV := Lib.hid (Below.then HV.out hb HV.out.size)
      clear hb
      go_wp2_with fail
      refine hK.out _ _ (HS10.out V1 HV.out) (fun hHeld => ?_)
      clear hK K
      try simp only [Act.put, List.setIfInBounds_toArray, List.set_cons_succ, List.set_cons_zero]
      refine takeOp (i := 5) (v := ?_) (some 45) rfl rfl (by kernel_rfl) (by kernel_rfl) (by kernel_rfl) (fun _ _ _ h => h) (Or.inl ⟨by rfl, ?_⟩) (by assumption) ?_
      rotate_left 1
      · (intro w0 hSw; (try dsimp only at hSw); go_simp; try (with_reducible rfl))
      try simp only [Act.put, List.setIfInBounds_toArray, List.set_cons_succ, List.set_cons_zero]
      refine takeOp (i := 6) (v := ?_) (some 51) rfl rfl (by kernel_rfl) (by kernel_rfl) (by kernel_rfl) (fun _ _ _ h => h) (Or.inl ⟨by rfl, ?_⟩) (by assumption) ?_
      rotate_left 1
      · (intro w0 hSw; (try dsimp only at hSw); go_simp; try (with_reducible rfl))
      try simp only [Act.put, List.setIfInBounds_toArray, List.set_cons_succ, List.set_cons_zero]
      refine takeOp (i := 7) (v := ?_) (some 52) rfl rfl (by kernel_rfl) (by kernel_rfl) (by kernel_rfl) (fun _ _ _ h => h) (Or.inl ⟨by rfl, ?_⟩) (by assumption) ?_
      rotate_left 1
      · (intro w0 hSw; (try dsimp only at hSw); go_simp; try (with_reducible rfl))
      try simp only [Act.put, List.setIfInBounds_toArray, List.set_cons_succ, List.set_cons_zero]
      refine takeOp (i := 8) (v := ?_) (some 53) rfl rfl (by kernel_rfl) (by kernel_rfl) (by kernel_rfl) (fun _ _ _ h => h) (Or.inl ⟨by rfl, ?_⟩) (by assumption) ?_
      rotate_left 1
      · (intro w0 hSw; (try dsimp only at hSw); go_simp; try (with_reducible rfl))
      try simp only [Act.put, List.setIfInBounds_toArray, List.set_cons_succ, List.set_cons_zero]
      refine wpAnyH_ready (rs := [9]) (by kernel_rfl) (by simp) ?_
      refine (AllReadyH.cons rfl (fun K hK => ?_) AllReadyH.nil)
      go_simp
      obtain ⟨V2, hV⟩ : ∃ V', V' = V1.alloc (.cells #[.map none] 28) := ⟨_, rfl⟩
      rw [← hV]
      have hb : Below V1.heap.size V1 V2 := by rw [hV]; exact ((Ext.refl V1).alloc _).below
      obtain ⟨gb, hgb⟩ : ∃ gb, gb = V1.heap.size := ⟨_, rfl⟩
      have HG : Hid (Row V2 gb 28 [.map none]) := by show Row _ _ _ _; rw [hV, hgb]; exact Row.new V1 _ _
      have HGZ : Hid (W5.heap.size ≤ gb) := by show _ ≤ _; rw [hgb]; exact HV.out.size
      have HGW0 : Hid (gb < V2.heap.size) := HG.out.lt
      have HWIN : Hid (WinP V0.heap.size V1 V2) := HWIN.out.up hb
      have HOUT : Hid (V1.heap.size ≤ gb) := by show _ ≤ _; rw [hgb]; exact Nat.le_refl _
      have HOKX : Hid (r2.1 = 0 → c = r2.2.2 ∧ DbM (fun b => b ≠ gb) S V2 (.map mx) r2.2.1) := fun h => ⟨(HOKX.out h).1, ((HOKX.out h).2.weak fun b hq _ => by show b ≠ gb; omega).up hb⟩
      have HV := Lib.hid (Below.then HV.out hb HV.out.size)
      rw [← hgb]
      clear hb hV hgb
      refine hK.out _ _ (HS10.out V2 HV.out) (fun hHeld => ?_)
      clear hK K
      try simp only [Act.put, List.setIfInBounds_toArray, List.set_cons_succ, List.set_cons_zero]
      refine wpAnyH_ready (rs := [10]) (by kernel_rfl) (by simp) ?_
      refine (AllReadyH.cons rfl (fun K hK => ?_) AllReadyH.nil)
      have m0 := HG.out.frozen 0
      have n0 : V2.cell? ⟨gb, 0, none⟩ = some (.map none) := HG.out.cell 0
      have m9 := HG.out.lt
      go_simp
      go_wp2_with fail
      obtain ⟨V3, hV⟩ : ∃ V', V' = (V2.setCell ⟨gb, 0, none⟩ (.map mx)) := ⟨_, rfl⟩
      rw [← hV]
      have HG : Hid (Row V3 gb 28 [.map mx]) := by show Row _ _ _ _; rw [hV]; exact (HG.out.set 0 _)
      have HWIN : Hid (WinP V0.heap.size V1 V3) := by show WinP _ _ _; rw [hV]; exact (HWIN.out.set (Or.inr HOUT.out) 0 _)
      have HOKX : Hid (r2.1 = 0 → c = r2.2.2 ∧ DbM (fun b => b ≠ gb) S V3 (.map mx) r2.2.1) := fun h => ⟨(HOKX.out h).1, by rw [hV]; exact (HOKX.out h).2.keep (Stay.set (fun h => h rfl) 0 _)⟩
      have HV : Hid (Below W5.heap.size W5 V3) := by show Below _ _ _; rw [hV]; exact (HV.out.setCell (by show W5.heap.size ≤ gb; exact HGZ.out) _)
      clear hV m9 m0 n0
      refine hK.out _ _ (HS10.out V3 HV.out) (fun hHeld => ?_)
      clear hK K
      try simp only [Act.put, List.setIfInBounds_toArray, List.set_cons_succ, List.set_cons_zero]
      refine takeOp (i := 11) (v := ?_) (some 14) rfl rfl (by kernel_rfl) (by kernel_rfl) (by kernel_rfl) (fun _ _ _ h => h) (Or.inl ⟨by rfl, ?_⟩) (by assumption) ?_
      rotate_left 1
      · (intro w0 hSw; (try dsimp only at hSw); go_simp; try (with_reducible rfl))
      try simp only [Act.put, List.setIfInBounds_toArray, List.set_cons_succ, List.set_cons_zero]
      refine takeOp (i := 12) (v := ?_) (some 15) rfl rfl (by kernel_rfl) (by kernel_rfl) (by kernel_rfl) (fun _ _ _ h => h) (Or.inl ⟨by rfl, ?_⟩) (by assumption) ?_
      rotate_left 1
      · (intro w0 hSw; (try dsimp only at hSw); go_simp; try (with_reducible rfl))
      try simp only [Act.put, List.setIfInBounds_toArray, List.set_cons_succ, List.set_cons_zero]
      refine wpAnyH_done (by kernel_rfl) ?_ _
      go_wp2_with fail
      go_meet
      case rel => exact ⟨gb, mx, c, rfl, rfl, rfl, HGZ.out, HG.out, fun h => ⟨(HOKX.out h).1, (HOKX.out h).2.weak fun _ _ _ => trivial⟩, HBADX.out, HV.out⟩
    · go_simp
      obtain ⟨V1, hV⟩ : ∃ V', V' = V0.alloc (.cells #[.map none] 28) := ⟨_, rfl⟩
      rw [← hV]
      have hb : Below V0.heap.size V0 V1 := by rw [hV]; exact ((Ext.refl V0).alloc _).below
      obtain ⟨gb, hgb⟩ : ∃ gb, gb = V0.heap.size := ⟨_, rfl⟩
      have HG : Hid (Row V1 gb 28 [.map none]) := by show Row _ _ _ _; rw [hV, hgb]; exact Row.new V0 _ _
      have HGZ : Hid (W5.heap.size ≤ gb) := by show _ ≤ _; rw [hgb]; exact HV.out.size
      have HGW0 : Hid (gb < V1.heap.size) := HG.out.lt
      have HV := Lib.hid (Below.then HV.out hb HV.out.size)
      rw [← hgb]
      clear hb hV hgb
      refine hK.out _ _ (HS10.out V1 HV.out) (fun hHeld => ?_)
      clear hK K
      try simp only [Act.put, List.setIfInBounds_toArray, List.set_cons_succ, List.set_cons_zero]
      refine wpAnyH_ready (rs := [4]) (by kernel_rfl) (by simp) ?_
      refine (AllReadyH.cons rfl (fun K hK => ?_) AllReadyH.nil)
      go_simp
      go_simp
      refine (HAP2.out V1 HV.out (fun b => b ≠ gb) (fun b hb => by have := HGZ.out; show b ≠ gb; omega) (fun b hb => by have := HGW0.out; show b ≠ gb; omega)).mono ?_
      rintro e V2 ⟨mx, c, rfl, hok, hbad, hb⟩
      have HOKX := Lib.hid hok
      have HBADX := Lib.hid hbad
      clear hok hbad
      go_simp
      have HG := Lib.hid (HG.out.up hb)
      have HGW : Hid (gb < V1.heap.size) := by show gb < _; have := HGW0.out; omega
      have HWIN : Hid (WinP V1.heap.size V2 V2) := WinP.refl _ _
      have HV := Lib.hid (Below.then HV.out hb HV.out.size)
      clear hb
      go_wp2_with fail
      refine hK.out _ _ (HS10.out V2 HV.out) (fun hHeld => ?_)
      clear hK K
      try simp only [Act.put, List.setIfInBounds_toArray, List.set_cons_succ, List.set_cons_zero]
      refine takeOp (i := 5) (v := ?_) (some 45) rfl rfl (by kernel_rfl) (by kernel_rfl) (by kernel_rfl) (fun _ _ _ h => h) (Or.inl ⟨by rfl, ?_⟩) (by assumption) ?_
      rotate_left 1
      · (intro w0 hSw; (try dsimp only at hSw); go_simp; try (with_reducible rfl))
      try simp only [Act.put, List.setIfInBounds_toArray, List.set_cons_succ, List.set_cons_zero]
      refine takeOp (i := 6) (v := ?_) (some 51) rfl rfl (by kernel_rfl) (by kernel_rfl) (by kernel_rfl) (fun _ _ _ h => h) (Or.inl ⟨by rfl, ?_⟩) (by assumption) ?_
      rotate_left 1
      · (intro w0 hSw; (try dsimp only at hSw); go_simp; try (with_reducible rfl))
      try simp only [Act.put, List.setIfInBounds_toArray, List.set_cons_succ, List.set_cons_zero]
      refine takeOp (i := 7) (v := ?_) (some 52) rfl rfl (by kernel_rfl) (by kernel_rfl) (by kernel_rfl) (fun _ _ _ h => h) (Or.inl ⟨by rfl, ?_⟩) (by assumption) ?_
      rotate_left 1
      · (intro w0 hSw; (try dsimp only at hSw); go_simp; try (with_reducible rfl))
      try simp only [Act.put, List.setIfInBounds_toArray, List.set_cons_succ, List.set_cons_zero]
      refine takeOp (i := 8) (v := ?_) (some 53) rfl rfl (by kernel_rfl) (by kernel_rfl) (by kernel_rfl) (fun _ _ _ h => h) (Or.inl ⟨by rfl, ?_⟩) (by assumption) ?_
      rotate_left 1
      · (intro w0 hSw; (try dsimp only at hSw); go_simp; try (with_reducible rfl))
      try simp only [Act.put, List.setIfInBounds_toArray, List.set_cons_succ, List.set_cons_zero]
      refine wpAnyH_ready (rs := [10]) (by kernel_rfl) (by simp) ?_
      refine (AllReadyH.cons rfl (fun K hK => ?_) AllReadyH.nil)
      have m0 := HG.out.frozen 0
      have n0 : V2.cell? ⟨gb, 0, none⟩ = some (.map none) := HG.out.cell 0
      have m9 := HG.out.lt
      go_simp
      go_wp2_with fail
      obtain ⟨V3, hV⟩ : ∃ V', V' = (V2.setCell ⟨gb, 0, none⟩ (.map mx)) := ⟨_, rfl⟩
      rw [← hV]
      have HG : Hid (Row V3 gb 28 [.map mx]) := by show Row _ _ _ _; rw [hV]; exact (HG.out.set 0 _)
      have HWIN : Hid (WinP V1.heap.size V2 V3) := by show WinP _ _ _; rw [hV]; exact (HWIN.out.set (Or.inl HGW.out) 0 _)
      have HOKX : Hid (r2.1 = 0 → c = r2.2.2 ∧ DbM (fun b => b ≠ gb) S V3 (.map mx) r2.2.1) := fun h => ⟨(HOKX.out h).1, by rw [hV]; exact (HOKX.out h).2.keep (Stay.set (fun h => h rfl) 0 _)⟩
      have HV : Hid (Below W5.heap.size W5 V3) := by show Below _ _ _; rw [hV]; exact (HV.out.setCell (by show W5.heap.size ≤ gb; exact HGZ.out) _)
      clear hV m9 m0 n0
      refine hK.out _ _ (HS10.out V3 HV.out) (fun hHeld => ?_)
      clear hK K
      try simp only [Act.put, List.setIfInBounds_toArray, List.set_cons_succ, List.set_cons_zero]
      refine takeOp (i := 11) (v := ?_) (some 14) rfl rfl (by kernel_rfl) (by kernel_rfl) (by kernel_rfl) (fun _ _ _ h => h) (Or.inl ⟨by rfl, ?_⟩) (by assumption) ?_
      rotate_left 1
      · (intro w0 hSw; (try dsimp only at hSw); go_simp; try (with_reducible rfl))
      try simp only [Act.put, List.setIfInBounds_toArray, List.set_cons_succ, List.set_cons_zero]
      refine takeOp (i := 12) (v := ?_) (some 15) rfl rfl (by kernel_rfl) (by kernel_rfl) (by kernel_rfl) (fun _ _ _ h => h) (Or.inl ⟨by rfl, ?_⟩) (by assumption) ?_
      rotate_left 1
      · (intro w0 hSw; (try dsimp only at hSw); go_simp; try (with_reducible rfl))
      try simp only [Act.put, List.setIfInBounds_toArray, List.set_cons_succ, List.set_cons_zero]
      refine wpAnyH_done (by kernel_rfl) ?_ _
      go_wp2_with fail
      go_meet
      case rel => exact ⟨gb, mx, c, rfl, rfl, rfl, HGZ.out, HG.out, fun h => ⟨(HOKX.out h).1, (HOKX.out h).2.weak fun _ _ _ => trivial⟩, HBADX.out, HV.out⟩
  case rest =>
  obtain ⟨g13, mf, nf, rfl, rfl, rfl, hz13, hr13, hokf, hbadf, hb6⟩ := hcut
  generalize wc = W6 at *
  have HR13 := Lib.hid hr13
  have HOKF := Lib.hid hokf
  have HB6 := Lib.hid (HB5.out.trans (hb6.mono HB5.out.size))
  have HR106 := Lib.hid (HR10.out.up hb6)
  have HOK16 : Hid (r1.1 = 0 → na = r1.2.2 ∧ DbM (fun _ => True) S W6 (.map ma) r1.2.1) := fun h => ⟨(HOK1.out h).1, (HOK1.out h).2.up hb6⟩
  clear hr13 hokf hbadf hb6 hz13 HR75 HD5 HR10 HOK1 HS10 HAP2 hg75
  by_cases hf0 : r2.1 = 0
  rotate_left
  · have h1 : r1.1 = r2.1 := by
      have h2 := applyF_bad S (us.take k) (us.drop k) (fun _ => []) 0 (by rw [← HRE2.out]; exact hf0)
      rw [List.take_append_drop, ← HRE1.out, ← HRE2.out] at h2
      exact h2
    have hn0 : na = 0 := HBAD1.out (by rw [h1]; exact hf0)
    subst hn0
    rw [h1]
    have hne : (r2.1 != 0) = true := by simpa using hf0
    clear h1 hf0
    generalize r2.1 = x at *
    go_wp2_with fail
    go_ret
    exact ⟨by simp, HB6.out⟩
  obtain ⟨hnf, hdf⟩ := HOKF.out hf0
  obtain ⟨b2, hb2⟩ := hdf.form
  injection hb2 with hb2
  subst hb2
  have HDF := Lib.hid hdf
  have HNF := Lib.hid hnf
  have HF0 := Lib.hid hf0
  rw [hf0]
  have happ : applyF S (fun _ => []) 0 us = applyF S r2.2.1 r2.2.2 (us.drop k) := by
    have h2 := applyF_app S (us.take k) (us.drop k) (fun _ => []) 0 (by rw [← HRE2.out]; exact hf0)
    rw [List.take_append_drop, ← HRE2.out] at h2
    exact h2
  obtain ⟨e1, e2⟩ := applyF_from S (us.drop k) r2.2.1 r2.2.2
  rw [← happ, ← HRE1.out, ← HRE3.out] at e1 e2
  have HE1 : Hid (r1.1 = r3.1) := e1
  have HE2 : Hid (r1.1 = 0 → r1.2.1 = r3.2.1 ∧ r1.2.2 = r2.2.2 + r3.2.2) := e2
  have HS13 : Hid (∀ V, Below W6.heap.size W6 V → V.cell? ⟨g13, 0, none⟩ = some (.map (some b2))) := fun V hb => (HR13.out.up hb).cell 0
  have hdl : (us.drop k).length = us.length - k := List.length_drop
  have HAP3 : Hid (∀ V, Below W6.heap.size W6 V → ∀ (P : Nat → Prop), (∀ b, b < W6.heap.size → P b) → (∀ b, V.heap.size ≤ b → P b) → Calls Tryz.prog 19 #[.agg #[.map (some b2)], .slice (tailU A k C) (us.length - k) (C - k)] V fun e w' => ∃ (mx : Option Nat) (c : Nat), e = .returned (.tuple #[.agg #[.map mx], .int .i64 (c : Nat), .int .i64 r3.1]) ∧ (r3.1 = 0 → c = r3.2.2 ∧ DbM P S w' (.map mx) r3.2.1) ∧ (r3.1 ≠ 0 → c = 0 ∧ mx = none) ∧ Below V.heap.size V w') := fun V hb P h1 h2 => by
    rw [HRE3.out]
    have h := ctApply_any P S (.map (some b2)) r2.2.1 (tailU A k C) (C - k) (us.drop k) V ((HDF.out.weak fun b hb _ => h1 b hb).up hb) h2 ((HU.out.up (HB6.out.trans (hb.mono HB6.out.size))).tail hUl k) (fun u hu => HUO2.out u (List.mem_of_mem_drop hu)) (by rw [hdl]; omega) (by have := HL.out; omega)
    rw [hdl] at h
    exact h.mono fun e w' h => h.shape
  have hg136 : g13 < W6.heap.size := HR13.out.lt
  clear hnf hdf hf0 happ e1 e2 hdl HOKF
  go_upto_region 13 with (fail)
  go_cut [16, 17, 18] from 63 to 71 (fun q1 q2 q3 wx => ∃ (g : Nat) (mx : Option Nat) (c : Nat), q1 = .pointer (some ⟨g, 0, none⟩) ∧ q2 = .int .i64 (c : Nat) ∧ q3 = .int .i64 r3.1 ∧ W6.heap.size ≤ g ∧ Row wx g 28 [.map mx] ∧ (r3.1 = 0 → c = r3.2.2 ∧ DbM (fun _ => True) S wx (.map mx) r3.2.1) ∧ (r3.1 ≠ 0 → c = 0 ∧ mx = none) ∧ Below W6.heap.size W6 wx)
  case first =>
    refine wp_region_held_drew (S := (fun w' => w'.cell? ⟨g13, 0, none⟩ = some (.map (some b2)))) (by kernel_rfl) (HS13.out W6.drew (Below.refl _ _).drew) (fun hHeld => ?_)
    obtain ⟨V0, hV0⟩ : ∃ V, V = W6.drew := ⟨_, rfl⟩
    have HV : Hid (Below W6.heap.size W6 V0) := by show Below _ _ _; rw [hV0]; exact (Below.refl _ _).drew
    rw [← hV0] at hHeld ⊢
    clear hV0
    refine takeOp (i := 0) (v := ?_) (some 64) rfl rfl (by kernel_rfl) (by kernel_rfl) (by kernel_rfl) (fun _ _ _ h => h) (Or.inl ⟨by rfl, ?_⟩) (by assumption) ?_
    rotate_left 1
    · (intro w0 hSw; (try dsimp only at hSw); go_simp; try (with_reducible rfl))
    try simp only [Act.put, List.setIfInBounds_toArray, List.set_cons_succ, List.set_cons_zero]
    refine takeOp (i := 1) (v := ?_) (some 65) rfl rfl (by kernel_rfl) (by kernel_rfl) (by kernel_rfl) (fun _ _ _ h => h) (Or.inl ⟨by rfl, ?_⟩) (by assumption) ?_
    rotate_left 1
    · (intro w0 hSw; (try dsimp only at hSw); go_simp; try (with_reducible rfl))
    try simp only [Act.put, List.setIfInBounds_toArray, List.set_cons_succ, List.set_cons_zero]
    refine takeOp (i := 2) (v := ?_) (some 66) rfl rfl (by kernel_rfl) (by kernel_rfl) (by kernel_rfl) (fun _ _ _ h => h) (Or.inl ⟨by rfl, ?_⟩) (by assumption) ?_
    rotate_left 1
    · (intro w0 hSw; (try dsimp only at hSw); go_simp; try (with_reducible rfl))
    try simp only [Act.put, List.setIfInBounds_toArray, List.set_cons_succ, List.set_cons_zero]
    refine takeOp (i := 3) (v := ?_) (some 67) rfl rfl (by kernel_rfl) (by kernel_rfl) (by kernel_rfl) (fun _ _ _ h => h) (Or.inl ⟨by rfl, ?_⟩) (by assumption) ?_
    rotate_left 1
    · (intro w0 hSw; (try dsimp only at hSw); go_simp; try (with_reducible rfl))
    try simp only [Act.put, List.setIfInBounds_toArray, List.set_cons_succ, List.set_cons_zero]
    refine wpAnyH_ready (rs := [4, 9]) (by kernel_rfl) (by simp) ?_
    refine (AllReadyH.cons rfl (fun K hK => ?_) (AllReadyH.cons rfl (fun K hK => ?_) AllReadyH.nil))
    · go_simp
      go_simp
      refine (HAP3.out V0 HV.out (fun _ => True) (fun _ _ => trivial) (fun _ _ => trivial)).mono ?_
      rintro e V1 ⟨mx, c, rfl, hok, hbad, hb⟩
      have HOKX := Lib.hid hok
      have HBADX := Lib.hid hbad
      clear hok hbad
      go_simp
      have HWIN : Hid (WinP V0.heap.size V1 V1) := WinP.refl _ _
      have HV := Lib.hid (Below.then HV.out hb HV.out.size)
      clear hb
      go_wp2_with fail
      refine hK.out _ _ (HS13.out V1 HV.out) (fun hHeld => ?_)
      clear hK K
      try simp only [Act.put, List.setIfInBounds_toArray, List.set_cons_succ, List.set_cons_zero]
      refine takeOp (i := 5) (v := ?_) (some 63) rfl rfl (by kernel_rfl) (by kernel_rfl) (by kernel_rfl) (fun _ _ _ h => h) (Or.inl ⟨by rfl, ?_⟩) (by assumption) ?_
      rotate_left 1
      · (intro w0 hSw; (try dsimp only at hSw); go_simp; try (with_reducible rfl))
      try simp only [Act.put, List.setIfInBounds_toArray, List.set_cons_succ, List.set_cons_zero]
      refine takeOp (i := 6) (v := ?_) (some 69) rfl rfl (by kernel_rfl) (by kernel_rfl) (by kernel_rfl) (fun _ _ _ h => h) (Or.inl ⟨by rfl, ?_⟩) (by assumption) ?_
      rotate_left 1
      · (intro w0 hSw; (try dsimp only at hSw); go_simp; try (with_reducible rfl))
      try simp only [Act.put, List.setIfInBounds_toArray, List.set_cons_succ, List.set_cons_zero]
      refine takeOp (i := 7) (v := ?_) (some 70) rfl rfl (by kernel_rfl) (by kernel_rfl) (by kernel_rfl) (fun _ _ _ h => h) (Or.inl ⟨by rfl, ?_⟩) (by assumption) ?_
      rotate_left 1
      · (intro w0 hSw; (try dsimp only at hSw); go_simp; try (with_reducible rfl))
      try simp only [Act.put, List.setIfInBounds_toArray, List.set_cons_succ, List.set_cons_zero]
      refine takeOp (i := 8) (v := ?_) (some 71) rfl rfl (by kernel_rfl) (by kernel_rfl) (by kernel_rfl) (fun _ _ _ h => h) (Or.inl ⟨by rfl, ?_⟩) (by assumption) ?_
      rotate_left 1
      · (intro w0 hSw; (try dsimp only at hSw); go_simp; try (with_reducible rfl))
      try simp only [Act.put, List.setIfInBounds_toArray, List.set_cons_succ, List.set_cons_zero]
      refine wpAnyH_ready (rs := [9]) (by kernel_rfl) (by simp) ?_
      refine (AllReadyH.cons rfl (fun K hK => ?_) AllReadyH.nil)
      go_simp
      obtain ⟨V2, hV⟩ : ∃ V', V' = V1.alloc (.cells #[.map none] 28) := ⟨_, rfl⟩
      rw [← hV]
      have hb : Below V1.heap.size V1 V2 := by rw [hV]; exact ((Ext.refl V1).alloc _).below
      obtain ⟨gb, hgb⟩ : ∃ gb, gb = V1.heap.size := ⟨_, rfl⟩
      have HG : Hid (Row V2 gb 28 [.map none]) := by show Row _ _ _ _; rw [hV, hgb]; exact Row.new V1 _ _
      have HGZ : Hid (W6.heap.size ≤ gb) := by show _ ≤ _; rw [hgb]; exact HV.out.size
      have HGW0 : Hid (gb < V2.heap.size) := HG.out.lt
      have HWIN : Hid (WinP V0.heap.size V1 V2) := HWIN.out.up hb
      have HOUT : Hid (V1.heap.size ≤ gb) := by show _ ≤ _; rw [hgb]; exact Nat.le_refl _
      have HOKX : Hid (r3.1 = 0 → c = r3.2.2 ∧ DbM (fun b => b ≠ gb) S V2 (.map mx) r3.2.1) := fun h => ⟨(HOKX.out h).1, ((HOKX.out h).2.weak fun b hq _ => by show b ≠ gb; omega).up hb⟩
      have HV := Lib.hid (Below.then HV.out hb HV.out.size)
      rw [← hgb]
      clear hb hV hgb
      refine hK.out _ _ (HS13.out V2 HV.out) (fun hHeld => ?_)
      clear hK K
      try simp only [Act.put, List.setIfInBounds_toArray, List.set_cons_succ, List.set_cons_zero]
      refine wpAnyH_ready (rs := [10]) (by kernel_rfl) (by simp) ?_
      refine (AllReadyH.cons rfl (fun K hK => ?_) AllReadyH.nil)
      have m0 := HG.out.frozen 0
      have n0 : V2.cell? ⟨gb, 0, none⟩ = some (.map none) := HG.out.cell 0
      have m9 := HG.out.lt
      go_simp
      go_wp2_with fail
      obtain ⟨V3, hV⟩ : ∃ V', V' = (V2.setCell ⟨gb, 0, none⟩ (.map mx)) := ⟨_, rfl⟩
      rw [← hV]
      have HG : Hid (Row V3 gb 28 [.map mx]) := by show Row _ _ _ _; rw [hV]; exact (HG.out.set 0 _)
      have HWIN : Hid (WinP V0.heap.size V1 V3) := by show WinP _ _ _; rw [hV]; exact (HWIN.out.set (Or.inr HOUT.out) 0 _)
      have HOKX : Hid (r3.1 = 0 → c = r3.2.2 ∧ DbM (fun b => b ≠ gb) S V3 (.map mx) r3.2.1) := fun h => ⟨(HOKX.out h).1, by rw [hV]; exact (HOKX.out h).2.keep (Stay.set (fun h => h rfl) 0 _)⟩
      have HV : Hid (Below W6.heap.size W6 V3) := by show Below _ _ _; rw [hV]; exact (HV.out.setCell (by show W6.heap.size ≤ gb; exact HGZ.out) _)
      clear hV m9 m0 n0
      refine hK.out _ _ (HS13.out V3 HV.out) (fun hHeld => ?_)
      clear hK K
      try simp only [Act.put, List.setIfInBounds_toArray, List.set_cons_succ, List.set_cons_zero]
      refine takeOp (i := 11) (v := ?_) (some 17) rfl rfl (by kernel_rfl) (by kernel_rfl) (by kernel_rfl) (fun _ _ _ h => h) (Or.inl ⟨by rfl, ?_⟩) (by assumption) ?_
      rotate_left 1
      · (intro w0 hSw; (try dsimp only at hSw); go_simp; try (with_reducible rfl))
      try simp only [Act.put, List.setIfInBounds_toArray, List.set_cons_succ, List.set_cons_zero]
      refine takeOp (i := 12) (v := ?_) (some 18) rfl rfl (by kernel_rfl) (by kernel_rfl) (by kernel_rfl) (fun _ _ _ h => h) (Or.inl ⟨by rfl, ?_⟩) (by assumption) ?_
      rotate_left 1
      · (intro w0 hSw; (try dsimp only at hSw); go_simp; try (with_reducible rfl))
      try simp only [Act.put, List.setIfInBounds_toArray, List.set_cons_succ, List.set_cons_zero]
      refine wpAnyH_done (by kernel_rfl) ?_ _
      go_wp2_with fail
      go_meet
      case rel => exact ⟨gb, mx, c, rfl, rfl, rfl, HGZ.out, HG.out, fun h => ⟨(HOKX.out h).1, (HOKX.out h).2.weak fun _ _ _ => trivial⟩, HBADX.out, HV.out⟩
    · go_simp
      obtain ⟨V1, hV⟩ : ∃ V', V' = V0.alloc (.cells #[.map none] 28) := ⟨_, rfl⟩
      rw [← hV]
      have hb : Below V0.heap.size V0 V1 := by rw [hV]; exact ((Ext.refl V0).alloc _).below
      obtain ⟨gb, hgb⟩ : ∃ gb, gb = V0.heap.size := ⟨_, rfl⟩
      have HG : Hid (Row V1 gb 28 [.map none]) := by show Row _ _ _ _; rw [hV, hgb]; exact Row.new V0 _ _
      have HGZ : Hid (W6.heap.size ≤ gb) := by show _ ≤ _; rw [hgb]; exact HV.out.size
      have HGW0 : Hid (gb < V1.heap.size) := HG.out.lt
      have HV := Lib.hid (Below.then HV.out hb HV.out.size)
      rw [← hgb]
      clear hb hV hgb
      refine hK.out _ _ (HS13.out V1 HV.out) (fun hHeld => ?_)
      clear hK K
      try simp only [Act.put, List.setIfInBounds_toArray, List.set_cons_succ, List.set_cons_zero]
      refine wpAnyH_ready (rs := [4]) (by kernel_rfl) (by simp) ?_
      refine (AllReadyH.cons rfl (fun K hK => ?_) AllReadyH.nil)
      go_simp
      go_simp
      refine (HAP3.out V1 HV.out (fun b => b ≠ gb) (fun b hb => by have := HGZ.out; show b ≠ gb; omega) (fun b hb => by have := HGW0.out; show b ≠ gb; omega)).mono ?_
      rintro e V2 ⟨mx, c, rfl, hok, hbad, hb⟩
      have HOKX := Lib.hid hok
      have HBADX := Lib.hid hbad
      clear hok hbad
      go_simp
      have HG := Lib.hid (HG.out.up hb)
      have HGW : Hid (gb < V1.heap.size) := by show gb < _; have := HGW0.out; omega
      have HWIN : Hid (WinP V1.heap.size V2 V2) := WinP.refl _ _
      have HV := Lib.hid (Below.then HV.out hb HV.out.size)
      clear hb
      go_wp2_with fail
      refine hK.out _ _ (HS13.out V2 HV.out) (fun hHeld => ?_)
      clear hK K
      try simp only [Act.put, List.setIfInBounds_toArray, List.set_cons_succ, List.set_cons_zero]
      refine takeOp (i := 5) (v := ?_) (some 63) rfl rfl (by kernel_rfl) (by kernel_rfl) (by kernel_rfl) (fun _ _ _ h => h) (Or.inl ⟨by rfl, ?_⟩) (by assumption) ?_
      rotate_left 1
      · (intro w0 hSw; (try dsimp only at hSw); go_simp; try (with_reducible rfl))
      try simp only [Act.put, List.setIfInBounds_toArray, List.set_cons_succ, List.set_cons_zero]
      refine takeOp (i := 6) (v := ?_) (some 69) rfl rfl (by kernel_rfl) (by kernel_rfl) (by kernel_rfl) (fun _ _ _ h => h) (Or.inl ⟨by rfl, ?_⟩) (by assumption) ?_
      rotate_left 1
      · (intro w0 hSw; (try dsimp only at hSw); go_simp; try (with_reducible rfl))
      try simp only [Act.put, List.setIfInBounds_toArray, List.set_cons_succ, List.set_cons_zero]
      refine takeOp (i := 7) (v := ?_) (some 70) rfl rfl (by kernel_rfl) (by kernel_rfl) (by kernel_rfl) (fun _ _ _ h => h) (Or.inl ⟨by rfl, ?_⟩) (by assumption) ?_
      rotate_left 1
      · (intro w0 hSw; (try dsimp only at hSw); go_simp; try (with_reducible rfl))
      try simp only [Act.put, List.setIfInBounds_toArray, List.set_cons_succ, List.set_cons_zero]
      refine takeOp (i := 8) (v := ?_) (some 71) rfl rfl (by kernel_rfl) (by kernel_rfl) (by kernel_rfl) (fun _ _ _ h => h) (Or.inl ⟨by rfl, ?_⟩) (by assumption) ?_
      rotate_left 1
      · (intro w0 hSw; (try dsimp only at hSw); go_simp; try (with_reducible rfl))
      try simp only [Act.put, List.setIfInBounds_toArray, List.set_cons_succ, List.set_cons_zero]
      refine wpAnyH_ready (rs := [10]) (by kernel_rfl) (by simp) ?_
      refine (AllReadyH.cons rfl (fun K hK => ?_) AllReadyH.nil)
      have m0 := HG.out.frozen 0
      have n0 : V2.cell? ⟨gb, 0, none⟩ = some (.map none) := HG.out.cell 0
      have m9 := HG.out.lt
      go_simp
      go_wp2_with fail
      obtain ⟨V3, hV⟩ : ∃ V', V' = (V2.setCell ⟨gb, 0, none⟩ (.map mx)) := ⟨_, rfl⟩
      rw [← hV]
      have HG : Hid (Row V3 gb 28 [.map mx]) := by show Row _ _ _ _; rw [hV]; exact (HG.out.set 0 _)
      have HWIN : Hid (WinP V1.heap.size V2 V3) := by show WinP _ _ _; rw [hV]; exact (HWIN.out.set (Or.inl HGW.out) 0 _)
      have HOKX : Hid (r3.1 = 0 → c = r3.2.2 ∧ DbM (fun b => b ≠ gb) S V3 (.map mx) r3.2.1) := fun h => ⟨(HOKX.out h).1, by rw [hV]; exact (HOKX.out h).2.keep (Stay.set (fun h => h rfl) 0 _)⟩
      have HV : Hid (Below W6.heap.size W6 V3) := by show Below _ _ _; rw [hV]; exact (HV.out.setCell (by show W6.heap.size ≤ gb; exact HGZ.out) _)
      clear hV m9 m0 n0
      refine hK.out _ _ (HS13.out V3 HV.out) (fun hHeld => ?_)
      clear hK K
      try simp only [Act.put, List.setIfInBounds_toArray, List.set_cons_succ, List.set_cons_zero]
      refine takeOp (i := 11) (v := ?_) (some 17) rfl rfl (by kernel_rfl) (by kernel_rfl) (by kernel_rfl) (fun _ _ _ h => h) (Or.inl ⟨by rfl, ?_⟩) (by assumption) ?_
      rotate_left 1
      · (intro w0 hSw; (try dsimp only at hSw); go_simp; try (with_reducible rfl))
      try simp only [Act.put, List.setIfInBounds_toArray, List.set_cons_succ, List.set_cons_zero]
      refine takeOp (i := 12) (v := ?_) (some 18) rfl rfl (by kernel_rfl) (by kernel_rfl) (by kernel_rfl) (fun _ _ _ h => h) (Or.inl ⟨by rfl, ?_⟩) (by assumption) ?_
      rotate_left 1
      · (intro w0 hSw; (try dsimp only at hSw); go_simp; try (with_reducible rfl))
      try simp only [Act.put, List.setIfInBounds_toArray, List.set_cons_succ, List.set_cons_zero]
      refine wpAnyH_done (by kernel_rfl) ?_ _
      go_wp2_with fail
      go_meet
      case rel => exact ⟨gb, mx, c, rfl, rfl, rfl, HGZ.out, HG.out, fun h => ⟨(HOKX.out h).1, (HOKX.out h).2.weak fun _ _ _ => trivial⟩, HBADX.out, HV.out⟩
  case rest =>
  obtain ⟨g16, ms, n2, rfl, rfl, rfl, hz16, hr16, hoks, hbads, hb7⟩ := hcut
  generalize wc = W7 at *
  have HR16 := Lib.hid hr16
  have HB7 := Lib.hid (HB6.out.trans (hb7.mono HB6.out.size))
  have HR107 := Lib.hid (HR106.out.up hb7)
  have HOK17 : Hid (r1.1 = 0 → na = r1.2.2 ∧ DbM (fun _ => True) S W7 (.map ma) r1.2.1) := fun h => ⟨(HOK16.out h).1, (HOK16.out h).2.up hb7⟩
  have HOKS := Lib.hid hoks
  rw [HE1.out]
  clear hr16 hoks hbads hb7 hz16 HR106 HOK16 HS13 HAP3 hg136 hsl hst
  by_cases hs0 : r3.1 = 0
  rotate_left
  · have hn0 : na = 0 := HBAD1.out (by rw [HE1.out]; exact hs0)
    subst hn0
    have hne : (r3.1 != 0) = true := by simpa using hs0
    clear hs0
    generalize r3.1 = x at *
    go_wp2_with fail
    go_ret
    exact ⟨by simp, HB7.out⟩
  have h10 : r1.1 = 0 := by rw [HE1.out]; exact hs0
  obtain ⟨hna, hda⟩ := HOK17.out h10
  obtain ⟨hn2, hds⟩ := HOKS.out hs0
  obtain ⟨ee1, ee2⟩ := HE2.out h10
  obtain ⟨ba, hba⟩ := hda.form
  injection hba with hba
  subst hba
  obtain ⟨bs, hbs⟩ := hds.form
  injection hbs with hbs
  subst hbs
  have hcnt := applyF_count S (us.take k) (fun _ => []) 0
  have hcnt2 := applyF_count S (us.drop k) r2.2.1 0
  rw [← HRE2.out] at hcnt
  rw [← HRE3.out] at hcnt2
  have hsum : na = nf + n2 := by rw [hna, ee2, HNF.out, hn2]
  have hsm : nf ≤ 60 ∧ n2 ≤ 60 := by
    rw [HNF.out, hn2]
    have h1 := List.length_take_le k us
    have h2 : (us.drop k).length ≤ us.length := by rw [List.length_drop]; omega
    have h3 : (us.take k).length ≤ us.length := by rw [List.length_take]; omega
    omega
  have hww : IntKind.i64.wrap ((nf : Int) + (n2 : Int)) = ((nf + n2 : Nat) : Int) := by rw [IntWalk.i64_in _ (by omega)]; omega
  subst hsum
  rw [hs0]
  rw [ee1] at hda
  have HE := Lib.hid (ctEqual_any W7 hda hds HND.out)
  rw [sameC_self] at HE
  have c0 : W7.cell? ⟨g10, 0, none⟩ = some (.map (some ba)) := HR107.out.cell 0
  have c1 := HR107.out.lt
  have c2 : W7.cell? ⟨g16, 0, none⟩ = some (.map (some bs)) := HR16.out.cell 0
  have c3 := HR16.out.lt
  clear hna hn2 ee1 ee2 hda hds h10 hs0 hcnt hcnt2 hsm HOKS HOK17
  go_wp2_with fail
  refine HE.out.mono ?_
  rintro e w8 ⟨rfl, hb8⟩
  have HB8 := Lib.hid (HB7.out.trans (hb8.mono HB7.out.size))
  clear hb8
  go_wp2_with fail
  go_ret
  exact ⟨rfl, HB8.out⟩
end
section
open Go.ChangeShapes Go.WideShapes Go.ChangeAt Go.RowKit Go.Joins Go.Deep

theorem cell_addr {w : World} {a : Addr} {v : Value} (h : w.cell? a = some v) : a = ⟨a.block, a.off, none⟩ ∧ a.block < w.heap.size := by
  obtain ⟨b, o, s⟩ := a
  unfold World.cell? at h
  simp only at h
  cases hh : w.heap[b]? with
  | none => rw [hh] at h; cases h
  | some ob =>
    have hlt : b < w.heap.size := by
      rcases Nat.lt_or_ge b w.heap.size with h1 | h1
      · exact h1
      · rw [Array.getElem?_eq_none h1] at hh; cases hh
    refine ⟨?_, hlt⟩
    rw [hh] at h
    cases ob with
    | cells c _ _ =>
      cases s with
      | none => rfl
      | some s => simp at h
    | _ => simp at h

theorem add_addr (b o i : Nat) : (Addr.add ⟨b, o, none⟩ i) = ⟨b, o + i, none⟩ := by
  unfold Addr.add
  split
  · next h => subst h; rfl
  · rfl

theorem rcells_div (y : RL.R) (i : Nat) (u : Value) (h : (rcells y)[i]? = some u) : ∃ v, y[i / 3]? = some v ∧ (vcells v)[i % 3]? = some u := by
  have hl : i < (rcells y).length := (List.getElem?_eq_some_iff.1 h).1
  rw [rcells_length] at hl
  have hq : i / 3 < y.length := by omega
  refine ⟨y[i / 3], List.getElem?_eq_getElem hq, ?_⟩
  obtain ⟨g0, g1, g2⟩ := rcells_get y (i / 3) _ (List.getElem?_eq_getElem hq)
  have hi : i = i / 3 * 3 + i % 3 := by omega
  have hr : i % 3 = 0 ∨ i % 3 = 1 ∨ i % 3 = 2 := by omega
  rcases hr with hr | hr | hr
  · rw [hr, Nat.add_zero] at hi; rw [hr]; rw [hi, g0] at h; exact h
  · rw [hr] at hi; rw [hr]; rw [hi, g1] at h; exact h
  · rw [hr] at hi; rw [hr]; rw [hi, g2] at h; exact h

section
variable {H : Type} {enc : TypeId × Value → H} {W : World} {n : Nat} {x : DataW H × List MemPlace}

theorem cells_TValue : Tryz.prog.cellsOf 82 = 3 := by kernel_rfl
theorem cells_TRow : Tryz.prog.cellsOf 42 = 1 := by kernel_rfl

theorem open_value {cs : List Value} (h : DataW.trod enc Tryz.prog W 0 (fun _ => true) true n 82 cs = some x) :
    ∃ v : RL.V, cs = vcells v ∧ v.str.size ≤ 9223372036854775807 := by
  obtain ⟨ys, n', _, _, hlen, hyl, hf⟩ := DataW.trod_struct Tryz.underlying82 h
  rw [cells_TValue] at hlen
  match cs, hlen with
  | [c0, c1, c2], _ =>
    match ys, hyl with
    | [y0, y1, y2], _ =>
      have h0 := hf 0 _ rfl
      have h1 := hf 1 _ rfl
      have h2 := hf 2 _ rfl
      obtain ⟨a0, e0, _, _⟩ := DataW.trod_int (k := .i64) (by kernel_rfl) h0
      obtain ⟨a1, e1, _, _⟩ := DataW.trod_int (k := .i64) (by kernel_rfl) h1
      obtain ⟨a2, e2, _, hz⟩ := DataW.trod_string (by kernel_rfl) h2
      have q0 : List.take (Tryz.prog.cellsOf 3) (List.drop 0 [c0, c1, c2]) = [.int .i64 a0] := e0
      have q1 : List.take (Tryz.prog.cellsOf 2) (List.drop 1 [c0, c1, c2]) = [.int .i64 a1] := e1
      have q2 : List.take (Tryz.prog.cellsOf 9) (List.drop 2 [c0, c1, c2]) = [.string a2] := e2
      rw [show Tryz.prog.cellsOf 3 = 1 by kernel_rfl] at q0
      rw [show Tryz.prog.cellsOf 2 = 1 by kernel_rfl] at q1
      rw [show Tryz.prog.cellsOf 9 = 1 by kernel_rfl] at q2
      simp at q0 q1 q2
      subst q0 q1 q2
      exact ⟨⟨a0, a1, a2⟩, rfl, hz⟩

theorem open_row {cs : List Value} (h : DataW.trod enc Tryz.prog W 0 (fun _ => true) true n 42 cs = some x) :
    ∃ A C y, cs = [.slice A y.length C] ∧ SlR W.heap.size W A y ∧ y.length ≤ C ∧ C ≤ 9223372036854775807 ∧ BigW y := by
  rcases open_slice Tryz.underlying42 h with ⟨hcs, _⟩ | ⟨a, len, cap, m, n', D, Pl, hcs, _, hl, hm, hmm, _, hel⟩
  · exact ⟨none, 0, [], hcs, SlR.nil, Nat.le_refl _, by simp, by simp [BigW]⟩
  · rw [cells_TValue] at hel
    simp only [if_true] at hmm
    subst hmm
    have hch : ∀ i, i < len → ∃ v : RL.V, (∀ j, j < 3 → W.cell? (a.add (i * 3 + j)) = (vcells v)[j]?) ∧ v.str.size ≤ 9223372036854775807 := by
      intro i hi
      obtain ⟨cs', h1, h2⟩ := hel i (by omega)
      obtain ⟨v, rfl, hv⟩ := open_value h2
      obtain ⟨_, _, h3⟩ := World.cells?_some h1
      refine ⟨v, fun j hj => ?_, hv⟩
      rw [← Go.Deep.add_add]
      exact h3 j hj
    haveI : Inhabited RL.V := ⟨⟨0, 0, ByteArray.empty⟩⟩
    obtain ⟨f, hf⟩ := choose_lt hch
    refine ⟨some a, m, (List.range len).map f, by simpa using hcs, fun hne => ?_, by simpa using hl, hm, by simp only [List.length_map, List.length_range]; exact Nat.le_trans hl hm, ?_⟩
    · have hpos : 0 < len := by
        rcases Nat.eq_zero_or_pos len with h0 | h0
        · subst h0; exact absurd rfl hne
        · exact h0
      have h0 := (hf 0 hpos).1 0 (by omega)
      rw [show a.add (0 * 3 + 0) = a by unfold Addr.add; simp] at h0
      obtain ⟨ha, hb⟩ := cell_addr (h0.trans rfl)
      refine ⟨a.block, a.off, by rw [← ha], hb, fun i u hu => ?_⟩
      obtain ⟨v, hv, hvu⟩ := rcells_div _ _ _ hu
      rw [List.getElem?_map] at hv
      have hq : i / 3 < len := by
        rcases Nat.lt_or_ge (i / 3) len with h | h
        · exact h
        · rw [List.getElem?_eq_none (by simpa using h)] at hv; simp at hv
      rw [List.getElem?_range hq] at hv
      simp at hv
      subst hv
      have h1 := (hf _ hq).1 (i % 3) (by omega)
      rw [show i / 3 * 3 + i % 3 = i by omega, ha, add_addr] at h1
      rw [h1]
      exact hvu
    · intro v hv
      rw [List.mem_map] at hv
      obtain ⟨i, hi, rfl⟩ := hv
      exact (hf i (by simpa using hi)).2

theorem sl_open {k : IntKind} {w : World} {a : Addr} {zs : List Int} {len : Nat} (hl : len ≤ zs.length) (hcell : ∀ i, i < zs.length → w.cell? (a.add i) = some (.int k (zs.getD i 0))) :
    SlI k w.heap.size w (some a) (zs.take len) := by
  intro hne
  have hpos : 0 < (zs.take len).length := by
    rcases Nat.eq_zero_or_pos (zs.take len).length with h | h
    · exact absurd (by rw [List.eq_nil_of_length_eq_zero h]; rfl) hne
    · exact h
  rw [List.length_take] at hpos
  have h0 := hcell 0 (by omega)
  rw [show a.add 0 = a by unfold Addr.add; simp] at h0
  obtain ⟨ha, hb⟩ := cell_addr h0
  refine ⟨a.block, a.off, by rw [← ha], hb, fun i u hu => ?_⟩
  rw [List.getElem?_map] at hu
  cases hz : (zs.take len)[i]? with
  | none => rw [hz] at hu; simp at hu
  | some z =>
    rw [hz] at hu
    simp at hu
    subst hu
    obtain ⟨hi, hzi⟩ := List.getElem?_eq_some_iff.1 hz
    rw [List.length_take] at hi
    have h1 := hcell i (by omega)
    rw [ha, add_addr] at h1
    rw [h1]
    simp at hzi
    simp [show i < zs.length by omega, hzi]

theorem open_cols {cs : List Value} (h : DataW.trod enc Tryz.prog W 0 (fun _ => true) true n 36 cs = some x) :
    ∃ A c zs, cs = [.slice A zs.length c] ∧ SlI .i64 W.heap.size W A zs ∧ zs.length ≤ 9223372036854775807 := by
  rcases open_ints Tryz.underlying36 Tryz.underlying3 (by kernel_rfl) h with ⟨hcs, _⟩ | ⟨a, len, cap, zs, hcs, _, hl, hm, hz, _, hcell, hwz⟩
  · exact ⟨none, 0, [], hcs, Sl.nil, by simp⟩
  · simp at hz
    have hlz : len ≤ zs.length := by omega
    have hm' : cap ≤ 9223372036854775807 := hm
    refine ⟨some a, cap, zs.take len, ?_, sl_open hlz hcell, ?_⟩
    · rw [List.length_take, Nat.min_eq_left hlz]; exact hcs
    · rw [List.length_take]; omega

theorem cells_TSchema : Tryz.prog.cellsOf 62 = 2 := by kernel_rfl
theorem cells_TUpd : Tryz.prog.cellsOf 53 = 3 := by kernel_rfl
theorem open_schema {cs : List Value} (h : DataW.trod enc Tryz.prog W 0 (fun _ => true) true n 62 cs = some x) :
    ∃ (s : ByteArray) (ks : List Int) (KA : Option Addr) (KC : Nat), cs = [.string s, .slice KA ks.length KC] ∧ SlI .i64 W.heap.size W KA ks ∧ s.size ≤ 9223372036854775807 ∧ ks.length ≤ 9223372036854775807 := by
  obtain ⟨ys, n', _, _, hlen, hyl, hf⟩ := DataW.trod_struct Tryz.underlying62 h
  rw [cells_TSchema] at hlen
  match cs, hlen with
  | [c0, c1], _ =>
    match ys, hyl with
    | [y0, y1], _ =>
      have h0 := hf 0 _ rfl
      have h1 := hf 1 _ rfl
      obtain ⟨a0, e0, _, hz⟩ := DataW.trod_string (by kernel_rfl) h0
      obtain ⟨KA, KC, ks, e1, hs, hk⟩ := open_cols h1
      have q0 : List.take (Tryz.prog.cellsOf 9) (List.drop 0 [c0, c1]) = [.string a0] := e0
      have q1 : List.take (Tryz.prog.cellsOf 36) (List.drop 1 [c0, c1]) = [.slice KA ks.length KC] := e1
      rw [show Tryz.prog.cellsOf 9 = 1 by kernel_rfl] at q0
      rw [show Tryz.prog.cellsOf 36 = 1 by kernel_rfl] at q1
      simp at q0 q1
      subst q0 q1
      exact ⟨a0, ks, KA, KC, rfl, hs, hz, hk⟩

theorem open_schemas {cs : List Value} (h : DataW.trod enc Tryz.prog W 0 (fun _ => true) true n 22 cs = some x) :
    ∃ A C X, cs = [.slice A X.length C] ∧ SchsM W.heap.size W A X ∧ SchsOk X ∧ X.length ≤ C ∧ C ≤ 9223372036854775807 := by
  rcases open_slice Tryz.underlying22 h with ⟨hcs, _⟩ | ⟨a, len, cap, m, n', D, Pl, hcs, _, hl, hm, hmm, hx, hel⟩
  · exact ⟨none, 0, [], hcs, fun h => absurd rfl h, fun p hp => (by cases hp), Nat.le_refl _, by simp⟩
  · rw [cells_TSchema] at hel
    simp only [if_true] at hmm
    subst hmm
    have hm' : m ≤ 9223372036854775807 := hm
    have hch : ∀ i, i < len → ∃ t : ByteArray × List Int, ∃ KA KC, W.cell? (a.add (i * 2)) = some (.string t.1) ∧ W.cell? (a.add (i * 2 + 1)) = some (.slice KA t.2.length KC) ∧ SlI .i64 W.heap.size W KA t.2 ∧ t.1.size ≤ 9223372036854775807 ∧ t.2.length ≤ 9223372036854775807 := by
      intro i hi
      obtain ⟨cs', h1, h2⟩ := hel i (by omega)
      obtain ⟨s, ks, KA, KC, rfl, hs, hz, hk⟩ := open_schema h2
      obtain ⟨_, _, h3⟩ := World.cells?_some h1
      refine ⟨(s, ks), KA, KC, ?_, ?_, hs, hz, hk⟩
      · have := h3 0 (by omega)
        rw [Go.Deep.add_add] at this
        exact this
      · have := h3 1 (by omega)
        rw [Go.Deep.add_add] at this
        exact this
    haveI : Inhabited (ByteArray × List Int) := ⟨⟨ByteArray.empty, []⟩⟩
    obtain ⟨f, hf⟩ := choose_lt hch
    refine ⟨some a, m, (List.range len).map f, by simpa using hcs, fun hne => ?_, ?_, by simpa using hl, hm'⟩
    · have hpos : 0 < len := by
        rcases Nat.eq_zero_or_pos len with h0 | h0
        · subst h0; exact absurd rfl hne
        · exact h0
      obtain ⟨_, _, h0, _⟩ := hf 0 hpos
      rw [show a.add (0 * 2) = a by unfold Addr.add; simp] at h0
      obtain ⟨ha, hb⟩ := cell_addr h0
      refine ⟨a.block, a.off, by rw [← ha], hb, fun i hi => ?_⟩
      have hi' : i < len := by simpa using hi
      obtain ⟨KA, KC, g0, g1, g2, _⟩ := hf i hi'
      rw [ha, add_addr] at g0 g1
      refine ⟨KA, KC, ?_, ?_, ?_⟩
      · simpa using g0
      · rw [← Nat.add_assoc] at g1
        simpa using g1
      · simpa using g2
    · intro p hp
      rw [List.mem_map] at hp
      obtain ⟨i, hi, rfl⟩ := hp
      obtain ⟨_, _, _, _, _, g⟩ := hf i (by simpa using hi)
      exact g

theorem open_upd {cs : List Value} (h : DataW.trod enc Tryz.prog W 0 (fun _ => true) true n 53 cs = some x) :
    ∃ (u : Upd) (RA : Option Addr) (RC : Nat), cs = [.bool u.del, .string u.rel, .slice RA u.row.length RC] ∧ SlR W.heap.size W RA u.row ∧ u.rel.size ≤ 9223372036854775807 ∧ u.row.length ≤ 9223372036854775807 ∧ BigW u.row := by
  obtain ⟨ys, n', _, _, hlen, hyl, hf⟩ := DataW.trod_struct Tryz.underlying53 h
  rw [cells_TUpd] at hlen
  match cs, hlen with
  | [c0, c1, c2], _ =>
    match ys, hyl with
    | [y0, y1, y2], _ =>
      have h0 := hf 0 _ rfl
      have h1 := hf 1 _ rfl
      have h2 := hf 2 _ rfl
      obtain ⟨a0, e0, _⟩ := DataW.trod_bool (by kernel_rfl) h0
      obtain ⟨a1, e1, _, hz⟩ := DataW.trod_string (by kernel_rfl) h1
      obtain ⟨RA, RC, y, e2, hs, hk, hk2, hbr⟩ := open_row h2
      have q0 : List.take (Tryz.prog.cellsOf 4) (List.drop 0 [c0, c1, c2]) = [.bool a0] := e0
      have q1 : List.take (Tryz.prog.cellsOf 9) (List.drop 1 [c0, c1, c2]) = [.string a1] := e1
      have q2 : List.take (Tryz.prog.cellsOf 42) (List.drop 2 [c0, c1, c2]) = [.slice RA y.length RC] := e2
      rw [show Tryz.prog.cellsOf 4 = 1 by kernel_rfl] at q0
      rw [show Tryz.prog.cellsOf 9 = 1 by kernel_rfl] at q1
      rw [cells_TRow] at q2
      simp at q0 q1 q2
      subst q0 q1 q2
      exact ⟨⟨a0, a1, y⟩, RA, RC, rfl, hs, hz, Nat.le_trans hk hk2, hbr⟩

theorem open_upds {cs : List Value} (h : DataW.trod enc Tryz.prog W 0 (fun _ => true) true n 23 cs = some x) :
    ∃ A C X, cs = [.slice A X.length C] ∧ UpdsM W.heap.size W A X ∧ (∀ u ∈ X, u.rel.size ≤ 9223372036854775807 ∧ u.row.length ≤ 9223372036854775807 ∧ BigW u.row) ∧ X.length ≤ C ∧ C ≤ 9223372036854775807 := by
  rcases open_slice Tryz.underlying23 h with ⟨hcs, _⟩ | ⟨a, len, cap, m, n', D, Pl, hcs, _, hl, hm, hmm, hx, hel⟩
  · exact ⟨none, 0, [], hcs, fun h => absurd rfl h, fun p hp => (by cases hp), Nat.le_refl _, by simp⟩
  · rw [cells_TUpd] at hel
    simp only [if_true] at hmm
    subst hmm
    have hm' : m ≤ 9223372036854775807 := hm
    have hch : ∀ i, i < len → ∃ t : Upd, ∃ RA RC, W.cell? (a.add (i * 3)) = some (.bool t.del) ∧ W.cell? (a.add (i * 3 + 1)) = some (.string t.rel) ∧ W.cell? (a.add (i * 3 + 2)) = some (.slice RA t.row.length RC) ∧ SlR W.heap.size W RA t.row ∧ t.rel.size ≤ 9223372036854775807 ∧ t.row.length ≤ 9223372036854775807 ∧ BigW t.row := by
      intro i hi
      obtain ⟨cs', h1, h2⟩ := hel i (by omega)
      obtain ⟨u, RA, RC, rfl, hs, g⟩ := open_upd h2
      obtain ⟨_, _, h3⟩ := World.cells?_some h1
      refine ⟨u, RA, RC, ?_, ?_, ?_, hs, g⟩
      · have := h3 0 (by omega)
        rw [Go.Deep.add_add] at this
        exact this
      · have := h3 1 (by omega)
        rw [Go.Deep.add_add] at this
        exact this
      · have := h3 2 (by omega)
        rw [Go.Deep.add_add] at this
        exact this
    haveI : Inhabited Upd := ⟨⟨false, ByteArray.empty, []⟩⟩
    obtain ⟨f, hf⟩ := choose_lt hch
    refine ⟨some a, m, (List.range len).map f, by simpa using hcs, fun hne => ?_, ?_, by simpa using hl, hm'⟩
    · have hpos : 0 < len := by
        rcases Nat.eq_zero_or_pos len with h0 | h0
        · subst h0; exact absurd rfl hne
        · exact h0
      obtain ⟨_, _, h0, _⟩ := hf 0 hpos
      rw [show a.add (0 * 3) = a by unfold Addr.add; simp] at h0
      obtain ⟨ha, hb⟩ := cell_addr h0
      refine ⟨a.block, a.off, by rw [← ha], hb, fun i hi => ?_⟩
      have hi' : i < len := by simpa using hi
      obtain ⟨RA, RC, g0, g1, g2, g3, _⟩ := hf i hi'
      rw [ha, add_addr] at g0 g1 g2
      rw [← Nat.add_assoc] at g1 g2
      refine ⟨RA, RC, ?_, ?_, ?_, ?_⟩
      · simpa using g0
      · simpa using g1
      · simpa using g2
      · simpa using g3
    · intro p hp
      rw [List.mem_map] at hp
      obtain ⟨i, hi, rfl⟩ := hp
      obtain ⟨_, _, _, _, _, _, g⟩ := hf i (by simpa using hi)
      exact g

end
end
section
open Go Go.ChangeShapes Go.WideShapes Go.ChangeAt Go.RowKit Go.Joins

theorem wrap_shaped {H : Type} {enc : TypeId × Value → H} {a : Assume} {C : Checked} {os : Os} {f : FuncId} {fn : Func} {s : ChangeSpec} {conds : List PathCond} {apart fresh handsOn again : Bool} {X : World → Array Value → Prop}
    (hX : ∀ (w w' : World) (args : Array Value), w.heap = w'.heap → X w args → X w' args)
    (own : ownKnob C.prog.godebug = none) (started : os.Started) (noInit : C.prog.inits.idxOf? f = none) (hfn : C.prog.funcs[f]? = some fn)
    (witness : ∃ (w : World) (tape : Tape) (i : Input), w.os = os ∧ (w.forCall tape i).Shaped C.prog ∧ i.vars = [] ∧ Input.okWide C.prog (w.forCall tape i) .any w.heap.size f i ∧
      ((s.pre enc C.prog fn conds apart (w.forCall tape i).memory i.args ∧ X (w.forCall tape i).memory i.args) ∧ sizedMet enc C.prog fn (OpenSpec.ofChange s) apart (w.forCall tape i).memory i.args) ∧ a.holds C.prog (lone (Frame.enter C.prog f i.args .normal) [] (w.forCall tape i)))
    (contract : ∀ (W : World) (base : Nat) (args : Array Value) (ds gs : List (DataW H)) (before : List MemPlace),
      (∀ (j : Nat) t v, fn.params[j]? = some t → args[j]? = some v → Value.okWide C.prog W .any base t v) →
      DataW.Whole enc C.prog fn.params.toList s.vars apart W args.toList ds gs before →
      conds.all (PathCond.test C.prog ⟨fn.params.toList, ds, s.plain.varTypes C.prog, gs⟩) = true →
      (DataW.weightsEach C.prog (fn.params.toList ++ s.plain.varTypes C.prog) (ds ++ gs)).all (· ≤ reachBytes) = true → X W args → W.ShapedOpen C.prog →
      a.holds C.prog (lone (Frame.enter C.prog f args .normal) [] W) →
      Calls C.prog f args W fun e W' => ∃ v, e = .returned v ∧ s.post enc C.prog fn apart fresh handsOn again W args v W') :
    ReturnsInHanded a C os f .any (fun w args => (s.pre enc C.prog fn conds apart w args ∧ X w args) ∧ sizedMet enc C.prog fn (OpenSpec.ofChange s) apart w args) (s.post enc C.prog fn apart fresh handsOn again) := by
  refine returnsInHanded_of_calls own started noInit witness ?_
  intro w tape i _ hsh _ hok hpre hholds
  obtain ⟨_, _, _, fn', hfn', _, _, _, _, hval⟩ := hok
  have e : fn' = fn := Option.some.inj (hfn'.symm.trans hfn)
  subst e
  obtain ⟨⟨⟨ds, gs, before, hw, hc⟩, hx⟩, hz⟩ := hpre
  have hw' := DataW.Whole.of_heap (w' := w.forCall tape i) (by rfl) hw
  refine (contract (w.forCall tape i) w.heap.size i.args ds gs before hval hw' hc (hz.weights hw) (hX _ _ _ (by rfl) hx) hsh hholds).mono fun e W' ⟨v, he, hp⟩ => ?_
  subst he
  exact ChangeSpec.post_blind hp

def laidL : List (String × DataW Unit) := [("math/bits.deBruijn32tab", Rows.laid_math_bits_deBruijn32tab), ("math/bits.deBruijn64tab", Rows.laid_math_bits_deBruijn64tab), ("internal/strconv.uint64pow10", Rows.laid_internal_strconv_uint64pow10), ("unicode/utf8.acceptRanges", Rows.laid_unicode_utf8_acceptRanges), ("strconv.ErrRange", Rows.laid_strconv_ErrRange), ("strconv.ErrSyntax", Rows.laid_strconv_ErrSyntax), ("unicode/utf8.first", Rows.laid_unicode_utf8_first)]

theorem laid_plain : (laidL.all fun x => x.2.handleName?.isNone) = true := by kernel_rfl

theorem iface_of_reads {P : Program} {w : World} {n : String} {g : Nat} {t : TypeId} {ms : Array (String × TypeId)} {nm : String} {d : DataW Unit} (h : Lib.VarReads P w n (.iface nm d)) (hg : P.globalNamed n = some g) (ht : (P.globals[g]?).map (·.type) = some t) (hu : P.underlying t = some (.interface ms)) :
    ∃ u v, w.cell? ⟨g, 0, none⟩ = some (.iface u v) := by
  obtain ⟨g', t', cs, fuel, p, h1, h2, h3, h4⟩ := h
  obtain rfl := Option.some.inj (hg.symm.trans h1)
  obtain rfl := Option.some.inj (ht.symm.trans h2)
  cases fuel with
  | zero => simp [DataW.trod] at h4
  | succ fuel =>
    have h0 : w.cell? ⟨g, 0, none⟩ = cs[0]? := by simpa using World.var?_cell hg h3 0
    obtain ⟨l⟩ := cs
    simp only [DataW.trod, hu] at h4
    split at h4 <;> simp_all

open Go.ChangeMaps in
theorem tabs_of {W : World} (h : laidMetH Tryz.prog laidL W) (hsh : W.ShapedOpen Tryz.prog) : Tabs W where
  pow := by
    rw [Go.MakeChecks.laidMetH_plain _ _ _ laid_plain] at h
    obtain ⟨g, t, cs, fuel, p, h1, h2, h3, h4⟩ := Lib.laidMet.reads h (n := "internal/strconv.uint64pow10") (d := Rows.laid_internal_strconv_uint64pow10) (by simp [laidL])
    obtain rfl := Option.some.inj (h1.symm.trans (show Tryz.prog.globalNamed "internal/strconv.uint64pow10" = some 1 by kernel_rfl))
    obtain rfl := Option.some.inj (h2.symm.trans (show (Tryz.prog.globals[1]?).map (·.type) = some 186 by kernel_rfl))
    unfold Lib.TabIs
    rw [h3, ← Lib.cells_of_tab (k := .u64) (n := 20) (e := 167) (zs := Lib.pow10Tab) Tryz.underlying186 (by kernel_rfl) (by kernel_rfl) (by kernel_rfl) (show DataW.trod (fun _ => ()) Tryz.prog W 0 (fun _ => true) false fuel 186 cs.toList = some (Lib.tabData .u64 Lib.pow10Tab, p) from h4.trans (congrArg (fun d => some (d, p)) (show Rows.laid_internal_strconv_uint64pow10 = Lib.tabData .u64 Lib.pow10Tab by kernel_rfl)))]
  maxl := by
    have := Go.Proofs.cell_of_shapedOpen_int (g := 0) (zero := #[.int .i64 0]) (t := 3) (k := .i64) hsh (of_decide_eq_true (by kernel_rfl)) (by kernel_rfl) rfl (by kernel_rfl) (by kernel_rfl) Tryz.underlying3
    exact this
  maxs := by
    have := Go.Proofs.cell_of_shapedOpen_int (g := 0) (zero := #[.int .i64 0]) (t := 3) (k := .i64) hsh (of_decide_eq_true (by kernel_rfl)) (by kernel_rfl) rfl (by kernel_rfl) (by kernel_rfl) Tryz.underlying3
    exact this
  rng := by
    rw [Go.MakeChecks.laidMetH_plain _ _ _ laid_plain] at h
    obtain ⟨u, v, hc⟩ := iface_of_reads (g := 7) (t := 91) (Lib.laidMet.reads h (n := "strconv.ErrRange") (d := Rows.laid_strconv_ErrRange) (by simp [laidL])) (by kernel_rfl) (by kernel_rfl) Tryz.underlying91
    exact ⟨_, hc, .inr ⟨u, v, rfl⟩⟩
end
end Go.Proofs.YtdadchpiibipoaaGreatDoor

/- Walk: the law TrieNone. -/
import Derived.Test.YtlcammcifjihpaaQ7
namespace Go.Proofs.Ytlcammcifjihpaa
open Go.RowKit Go.Sort

theorem trM_zero (B : Nat) (w : World) (vs : Nat → RL.R) (fs : Nat → List Nat) : TrM B w none 0 vs fs := fun l hl => by omega

set_option maxHeartbeats 8000000 in
set_option maxRecDepth 100000 in
theorem none_walk (v : Nat) (w : World) (hv : v < 256) : Calls Try.prog 5 #[.int .u8 v] w fun e w' => e = .returned (.bool true) ∧ Below w.heap.size w w' := by
  have HIT := Lib.hid (fun W => itIter none 0 0 [] W)
  have HV := Lib.hid (fun W => l34Value_any v W hv)
  have HPL : Hid (∀ r ∈ ([] : List RL.R), r.length = 0) := fun r hr => by cases hr
  have hP3 : ([] : List RL.R).length ≤ 100000 := by simp
  go_enter Try.func5, Try.ntmps5
  go_wp2_with fail
  refine (HIT.out _).mono ?_
  rintro e w1 ⟨g, rfl, hg, hit, hb⟩
  have HB1 := Lib.hid hb
  have HI1 := Lib.hid hit
  clear hit hb
  go_wp2_with fail
  refine (tiKey_nil _).mono ?_
  rintro e w2 ⟨rfl, hb⟩
  have HB2 := Lib.hid (Below.then HB1.out hb HB1.out.size)
  have HI2 := Lib.hid (HI1.out.up hb)
  clear hb HI1
  go_wp2_with fail
  have hx2 : Ext w2 (w2.alloc (.cells #[.int .i64 0, .int .i64 0, .string ⟨#[]⟩] 38)) := (Ext.refl w2).alloc _
  have HI2' := Lib.hid (HI2.out.ext hx2)
  have HB2' := Lib.hid (Below.then HB2.out hx2.below HB2.out.size)
  clear hx2
  generalize w2.alloc (.cells #[.int .i64 0, .int .i64 0, .string ⟨#[]⟩] 38) = W2 at *
  refine (itKey W2.heap.size g none 0 0 [] none 0 W2 (trM_zero _ _ _ _) (Nat.le_refl _) HI2'.out (by omega) hP3 HPL.out).mono ?_
  rintro e w3 ⟨rfl, hb⟩
  have HB3 := Lib.hid (Below.then HB2'.out hb HB2'.out.size)
  have HI3 := Lib.hid (HI2'.out.up hb)
  clear hb HI2'
  rw [show vv (keyV 0 [] none) = vv ⟨0, 0, ⟨#[]⟩⟩ from rfl, show onX 0 [] none = false from rfl]
  go_wp2_with fail
  have hx3 : Ext w3 (w3.alloc (.cells #[.int .i64 0, .int .i64 0, .string ⟨#[]⟩] 38)) := (Ext.refl w3).alloc _
  have HI4 := Lib.hid (HI3.out.ext hx3)
  have HB4 := Lib.hid (Below.then HB3.out hx3.below HB3.out.size)
  clear hx3
  generalize w3.alloc (.cells #[.int .i64 0, .int .i64 0, .string ⟨#[]⟩] 38) = W4 at *
  refine (tiOpen_nil W4).mono ?_
  rintro e w5 ⟨rfl, hx⟩
  have HB5 := Lib.hid (Below.then HB4.out hx.below HB4.out.size)
  have HI5 := Lib.hid (HI4.out.ext hx)
  clear hx
  go_wp2_with fail
  refine (tiUp_nil w5).mono ?_
  rintro e w6 ⟨rfl, rfl⟩
  go_wp2_with fail
  refine (tiNext_nil w5).mono ?_
  rintro e w6 ⟨rfl, hx⟩
  have HB6 := Lib.hid (Below.then HB5.out hx.below HB5.out.size)
  have HI6 := Lib.hid (HI5.out.ext hx)
  clear hx
  go_wp2_with fail
  refine (HV.out w6).mono ?_
  rintro e w7 ⟨rfl, hb⟩
  have HB7 := Lib.hid (Below.then HB6.out hb HB6.out.size)
  have HI7 := Lib.hid (HI6.out.up hb)
  clear hb
  go_wp2_with fail
  refine (tiSeek_nil (valN v) w7).mono ?_
  rintro e w8 ⟨rfl, hx⟩
  have HB8 := Lib.hid (Below.then HB7.out hx.below HB7.out.size)
  have HI8 := Lib.hid (HI7.out.ext hx)
  clear hx
  go_wp2_with fail
  refine (tiLevel_nil w8).mono ?_
  rintro e w9 ⟨rfl, rfl⟩
  go_wp2_with fail
  refine (tiSteps_nil w8).mono ?_
  rintro e w9 ⟨rfl, rfl⟩
  go_wp2_with fail
  refine (itOpen 0 g none 0 0 [] none 0 w8 (trM_zero _ _ _ _) (Nat.zero_le _) HI8.out (by omega) hP3 HPL.out).mono ?_
  rintro e w9 ⟨rfl, hit, hg9⟩
  have HG9 := Lib.hid hg9
  have HI9 : Hid (IterP w9 g none 0 0 [] none 0) := hit
  clear hit hg9
  rw [show openB 0 [] none = false from rfl]
  go_wp2_with fail
  refine (itUp g none 0 0 [] none 0 w9 HI9.out (by omega) HPL.out).mono ?_
  rintro e w10 ⟨rfl, hit, hg10⟩
  have HG10 := Lib.hid (grown_trans HG9.out hg10)
  have HI10 : Hid (IterP w10 g none 0 0 [] none 0) := hit
  clear hit hg10
  rw [show upB none = false from rfl]
  go_wp2_with fail
  refine (itNext 0 g none 0 0 [] none 0 w10 HI10.out hP3).mono ?_
  rintro e w11 ⟨rfl, hit, hg11⟩
  have HG11 := Lib.hid (grown_trans HG10.out hg11)
  have HI11 : Hid (IterP w11 g none 0 0 [] none 0) := hit
  clear hit hg11
  rw [show onX 0 [] (nextX 0 [] none) = false from rfl]
  go_wp2_with fail
  refine (HV.out w11).mono ?_
  rintro e w12 ⟨rfl, hb⟩
  have HG12 := Lib.hid (grown_below HG11.out hb HG11.out.size)
  have HI12 := Lib.hid (HI11.out.up hb)
  clear hb
  go_wp2_with fail
  refine (itSeek 0 g none 0 0 [] none 0 (valN v) w12 (trM_zero _ _ _ _) (Nat.zero_le _) (Nat.zero_le _) HI12.out (by omega) hP3 HPL.out (by omega)).mono ?_
  rintro e w13 ⟨s13, rfl, hit, -, hg13⟩
  have HG13 := Lib.hid (grown_trans HG12.out hg13)
  have HI13 : Hid (IterP w13 g none 0 0 [] none s13) := hit
  clear hit hg13
  rw [show onX 0 [] (seekX 0 [] (valN v) none) = false from rfl]
  go_wp2_with fail
  refine (itLevel g none 0 0 [] none s13 w13 HI13.out).mono ?_
  rintro e w14 ⟨rfl, rfl⟩
  rw [show Value.int .i64 (levelX none : Nat) = .int .i64 0 from rfl]
  go_wp2_with fail
  refine (trDepth_any none 0 0 w13).mono ?_
  rintro e w15 ⟨rfl, hx⟩
  have HG15 := Lib.hid (grown_below HG13.out hx.below HG13.out.size)
  clear hx
  rw [show Value.int .i64 ((0 : Nat) : Int) = .int .i64 0 from rfl]
  go_wp2_with fail
  refine (l34awake_any w15).mono ?_
  rintro e w16 ⟨rfl, hb⟩
  have HG16 := Lib.hid (grown_below HG15.out hb HG15.out.size)
  clear hb
  go_wp2
  go_ret
  exact ⟨rfl, Below.then HB8.out (below_of_grown HG16.out hg HB8.out.size) (Nat.le_refl _)⟩

end Go.Proofs.Ytlcammcifjihpaa

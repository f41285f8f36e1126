/- Parts of the proof, merged: Z39, F15. -/
import Derived.Test.YtgaffbdcpkbdhaaQ9
import Derived.Test.YtgaffbdcpkbdhaaQ10
import Derived.Test.YtgaffbdcpkbdhaaRows
import Derived.Test.YtgaffbdcpkbdhaaQ5
import Derived.ProofKit
import Derived.OpenShut
import Derived.ShutString
import Derived.ChangeOld
import Derived.ChangeSame
import Derived.Lib.SmallJoins
import Derived.Deep.Slices
import Derived.Deep.Fields

section
/- Walk: the law SnapshotPlays (chapter 16). -/
namespace Go.Proofs.Ytgaffbdcpkbdhaa
open Go.RowKit Go.Sort Go.ChangeMaps Go.WideShapes

theorem RStP.shape {P : Nat → Prop} {w : World} {val : Value} {vs : List RV} {bs : List (List Upd)} (h : RStP P w val vs bs) : ∃ n1 VA VC n2 BA BC, val = .agg #[.slice VA n1 VC, .slice BA n2 BC] := by
  obtain ⟨VA, VC, BA, BC, _, e, _⟩ := h
  exact ⟨_, VA, VC, _, BA, BC, e⟩
theorem UpdsM.stay {PP : Nat → Prop} {w V w' : World} {A : Option Addr} {us : List Upd} (h : UpdsM w.heap.size w A us) (hb : Below w.heap.size w V) (hP : ∀ b, b < w.heap.size → PP b) (hs : Stay PP V w') : UpdsM w'.heap.size w' A us := by
  have hk : Below w.heap.size w { w' with os := w.os, tape := w.tape, output := w.output } := ⟨rfl, rfl, rfl, Nat.le_trans hb.size hs.1, fun k hk => (hs.2 k (Nat.lt_of_lt_of_le hk hb.size) (hP k hk)).trans (hb.block k hk)⟩
  exact (h.below hk (Nat.le_refl _)).more hk.size
theorem l16do_any (P : Nat → Prop) (X : Sch) (m rval : Value) (l : Int) (V : List Ver) (vs : List RV) (bs : List (List Upd)) (B : Nat) (a : ActR) (UA : Option Addr) (UC : Nat) (w : World) (hst : StM P X w m V) (hrs : RStP P w rval vs bs) (hrel : RelR X V l vs bs B) (hB : B ≤ 60) (hXl : X.length ≤ 1000) (hPn : ∀ b, w.heap.size ≤ b → P b) (hfit : ActFit a) (hUP : ∀ w', Stay P w w' → UpdsM w'.heap.size w' UA a.us) :
    Calls Try.prog 24 #[.agg #[m, .int .i64 l], rval, .agg #[.int .u8 (a.kind : Nat), .int .i64 a.num, .slice UA a.us.length UC]] w (DoPost P X B w) := by
  by_cases h2 : a.kind % 5 = 2
  · exact l16do_pin P X m rval l V vs bs B a UA UC w hst hrs hrel hB hXl hPn hfit hUP h2
  by_cases h3 : a.kind % 5 = 3
  · exact l16do_unpin P X m rval l V vs bs B a UA UC w hst hrs hrel hB hXl hPn hfit hUP h3
  by_cases h4 : a.kind % 5 = 4
  · exact l16do_collect P X m rval l V vs bs B a UA UC w hst hrs hrel hB hXl hPn hfit hUP h4
  exact l16do_commit P X m rval l V vs bs B a UA UC w hst hrs hrel hB hXl hPn hfit hUP ⟨h2, h3, h4⟩
/-- Before an act. -/
def PlayI (X : Sch) (g7 g9 g11 bd i : Nat) (w wr : World) : Prop :=
  ∃ b l V VA n1 VC BA n2 BC vs bs, Row wr g9 31 [.map (some b), .int .i64 l] ∧ Row wr g11 66 [.slice VA n1 VC, .slice BA n2 BC] ∧ Row wr g7 25 [.map (some bd)] ∧ StM (fun b => b ≠ g9 ∧ b ≠ g11) X wr (.map (some b)) V ∧
    RStP (fun b => b ≠ g9 ∧ b ≠ g11) wr (.agg #[.slice VA n1 VC, .slice BA n2 BC]) vs bs ∧ RelR X V l vs bs i ∧ DbM (fun b => b ≠ g9 ∧ b ≠ g11) X wr (.map (some bd)) cont0 ∧ Below w.heap.size w wr

set_option maxHeartbeats 16000000 in
set_option maxRecDepth 100000 in
theorem l16Plays_any (SA : Option Addr) (SC : Nat) (X : Sch) (pn : Nat) (LA : Option Addr) (LC : Nat) (L : List ActR) (w : World)
    (hS : SchsM w.heap.size w SA X) (hSo : SchsOk X) (hSl : X.length ≤ 9223372036854775807) (hpn : pn ≤ 255) (hL : ActsM w.heap.size w LA L) (hLo : ∀ a ∈ L, ActOk a) (hLl : L.length ≤ 9223372036854775807) :
    Calls Try.prog 7 #[.slice SA X.length SC, .int .u8 (pn : Nat), .slice LA L.length LC] w fun e w' => e = .returned (.bool true) ∧ Below w.heap.size w w' := by
  have HS := Lib.hid hS
  have HSO := Lib.hid hSo
  have HL := Lib.hid hL
  have HLO := Lib.hid hLo
  have HSL := Lib.hid hSl
  have HLL := Lib.hid hLl
  clear hS hSo hL hLo hSl hLl
  have HAW := Lib.hid (l16awake_any w)
  go_enter Try.func7, Try.ntmps7
  go_wp2_with fail
  refine HAW.out.mono ?_
  rintro e w1 ⟨rfl, hb1⟩
  have HB1 := Lib.hid hb1
  have HF1 := Lib.hid (l16few_any LA LC L w1 ((HL.out.below HB1.out (Nat.le_refl _)).more HB1.out.size) HLL.out HLO.out)
  clear hb1 HAW
  cases hf1 : fewL L with
  | false =>
    rw [hf1] at HF1
    clear hf1
    go_wp2_with fail
    refine HF1.out.mono ?_
    rintro e w2 ⟨rfl, hx2⟩
    have HB2 := Lib.hid (Below.then HB1.out hx2.below HB1.out.size)
    clear hx2 HF1 HB1
    go_wp2_with fail
    go_ret
    exact ⟨rfl, HB2.out⟩
  | true =>
  rw [hf1] at HF1
  obtain ⟨hL40, hfit⟩ := fewL_fit hf1 HLO.out
  have HFIT := Lib.hid hfit
  clear hf1 hfit
  go_wp2_with fail
  refine HF1.out.mono ?_
  rintro e w4 ⟨rfl, hx2⟩
  have HB4 := Lib.hid (Below.then HB1.out hx2.below HB1.out.size)
  clear hx2 HF1 HB1
  by_cases h20 : 20 < X.length
  · have q1 : (20 : Int) < (X.length : Int) := by omega
    go_wp2_with fail
    go_ret
    exact ⟨rfl, HB4.out⟩
  have q1 : ¬ (20 : Int) < (X.length : Int) := by omega
  have HN := Lib.hid (ctNew_any (fun _ => True) SA SC X w4 (fun _ _ => trivial) ((HS.out.below HB4.out (Nat.le_refl _)).more HB4.out.size) HSO.out HSL.out)
  clear h20
  go_wp2_with fail
  refine HN.out.mono ?_
  rintro e w5 ⟨h5, h6, hb5⟩
  have HB5 := Lib.hid (Below.then HB4.out hb5 HB4.out.size)
  clear HN HB4 hb5
  by_cases herr : errS X = 0
  rotate_left
  · obtain rfl := h6 herr
    have q2 : (errS X != 0) = true := by simpa using herr
    clear h5 h6 herr
    go_wp2_with fail
    go_ret
    exact ⟨rfl, Below.then HB5.out ((Ext.refl w5).alloc _).below HB5.out.size⟩
  obtain ⟨m5, rfl, hdb⟩ := h5 herr
  obtain ⟨bd, rfl⟩ := hdb.form
  have HOKS := Lib.hid (errS_ok herr)
  obtain ⟨g7, hg7⟩ : ∃ g, g = w5.heap.size := ⟨_, rfl⟩
  obtain ⟨W7, hW7⟩ : ∃ W7, W7 = w5.alloc (.cells #[.map (some bd)] 25) := ⟨_, rfl⟩
  have hx7 : Ext w5 W7 := by rw [hW7]; exact (Ext.refl w5).alloc _
  have HG7 : Hid (Row W7 g7 25 [.map (some bd)]) := by show Row _ _ _ _; rw [hW7, hg7]; exact Row.new w5 25 _
  have k0 : W7.cell? ⟨g7, 0, none⟩ = some (.map (some bd)) := HG7.out.cell 0
  have k1 := HG7.out.lt
  have HB7 := Lib.hid (Below.then HB5.out hx7.below HB5.out.size)
  have hg7w : w.heap.size ≤ g7 := by rw [hg7]; exact HB5.out.size
  have HDB : Hid (DbM (fun _ => True) X W7 (.map (some bd)) cont0) := hdb.up hx7.below
  have HW7 := Lib.hid hW7
  have HGE7 := Lib.hid hg7
  have r5 : IntKind.i64.wrap (pn : Int) = (pn : Int) := IntWalk.i64_in _ (by omega)
  have HWF : Hid ((Lit.int .i64 (pn : Int)).wf = true) := by show _ = true; simp [Lit.wf, IntKind.min, IntKind.max, IntKind.signed, IntKind.bits]; omega
  clear h5 h6 hx7 hW7 hdb herr HB5 hg7
  go_upto_region 6 with (fail)
  rw [← HW7.out, ← HGE7.out]
  clear HW7 HGE7
  go_wp2_with fail
  refine (snNew_ok (P := fun _ => True) (S := X) (m := .map (some bd)) (F := cont0) (pn : Int) (by omega) HWF.out W7 HDB.out (fun _ _ => trivial)).mono ?_
  rintro e w8 ⟨m8, rfl, hst8, hb8⟩
  obtain ⟨b8, rfl⟩ := hst8.form
  obtain ⟨g9, hg9⟩ : ∃ g, g = w8.heap.size := ⟨_, rfl⟩
  obtain ⟨W9, hW9⟩ : ∃ W9, W9 = w8.alloc (.cells #[.map (some b8), .int .i64 (pn : Int)] 31) := ⟨_, rfl⟩
  have hx9 : Ext w8 W9 := by rw [hW9]; exact (Ext.refl w8).alloc _
  have HG9 : Hid (Row W9 g9 31 [.map (some b8), .int .i64 (pn : Int)]) := by show Row _ _ _ _; rw [hW9, hg9]; exact Row.new w8 31 _
  have hb79 := Below.then hb8 hx9.below hb8.size
  have HG79 := Lib.hid (HG7.out.up hb79)
  have HB9 := Lib.hid (Below.then HB7.out hb79 HB7.out.size)
  have hg79 : g7 < g9 := by rw [hg9]; exact Nat.lt_of_lt_of_le HG7.out.lt hb8.size
  have HST9 : Hid (StM (fun b => b ≠ g9) X W9 (.map (some b8)) [⟨pn, cont0, 0⟩]) := (hst8.weak (P' := fun b => b ≠ g9) fun b hb _ => by show b ≠ g9; omega).up hx9.below
  have HDB9 : Hid (DbM (fun b => b ≠ g9) X W9 (.map (some bd)) cont0) := (HDB.out.weak (P' := fun b => b ≠ g9) fun b hb _ => by have := hb8.size; show b ≠ g9; omega).up hb79
  have hz9 : g9 < W9.heap.size := HG9.out.lt
  have HNW := Lib.hid (r16New_any (fun b => b ≠ g9) (pn : Int) W9 (fun b hb => by show b ≠ g9; omega))
  have HW9 := Lib.hid hW9
  have HGE9 := Lib.hid hg9
  clear hst8 hb8 hx9 hW9 hb79 hg9 HG7 HDB HB7 k0 k1
  go_upto_region 9 with (fail)
  rw [← HW9.out, ← HGE9.out]
  clear HW9 HGE9
  go_wp2_with fail
  refine HNW.out.mono ?_
  rintro e w10 ⟨rv, rfl, hrs10, hb10⟩
  obtain ⟨n1, VA, VC, n2, BA, BC, rfl⟩ := hrs10.shape
  obtain ⟨g11, hg11⟩ : ∃ g, g = w10.heap.size := ⟨_, rfl⟩
  obtain ⟨W11, hW11⟩ : ∃ W, W = w10.alloc (.cells #[.slice VA n1 VC, .slice BA n2 BC] 66) := ⟨_, rfl⟩
  have hx11 : Ext w10 W11 := by rw [hW11]; exact (Ext.refl w10).alloc _
  have HG11 : Hid (Row W11 g11 66 [.slice VA n1 VC, .slice BA n2 BC]) := by show Row _ _ _ _; rw [hW11, hg11]; exact Row.new w10 66 _
  have hb911 := Below.then hb10 hx11.below hb10.size
  have HG9B := Lib.hid (HG9.out.up hb911)
  have HG7B := Lib.hid (HG79.out.up hb911)
  have HB11 := Lib.hid (Below.then HB9.out hb911 HB9.out.size)
  have hz11 : g9 < g11 := by rw [hg11]; exact Nat.lt_of_lt_of_le hz9 hb10.size
  have hw11 : W9.heap.size ≤ g11 := by rw [hg11]; exact hb10.size
  have HST11 : Hid (StM (fun b => b ≠ g9 ∧ b ≠ g11) X W11 (.map (some b8)) [⟨pn, cont0, 0⟩]) := (HST9.out.weak (P' := fun b => b ≠ g9 ∧ b ≠ g11) fun b hb hp => ⟨hp, by omega⟩).up hb911
  have HDB11 : Hid (DbM (fun b => b ≠ g9 ∧ b ≠ g11) X W11 (.map (some bd)) cont0) := (HDB9.out.weak (P' := fun b => b ≠ g9 ∧ b ≠ g11) fun b hb hp => ⟨hp, by omega⟩).up hb911
  have HRS11 : Hid (RStP (fun b => b ≠ g9 ∧ b ≠ g11) W11 (.agg #[.slice VA n1 VC, .slice BA n2 BC]) [⟨pn, 0, 0⟩] []) := hrs10.sub hx11.below fun b hb hp => ⟨hp, by omega⟩
  have hz12 : g11 < W11.heap.size := HG11.out.lt
  have HRL0 : Hid (RelR X [⟨pn, cont0, 0⟩] pn [⟨pn, 0, 0⟩] [] 0) := RelR.one (by omega) (by omega)
  have HPN : Hid (∀ W : World, W11.heap.size ≤ W.heap.size → ∀ b, W.heap.size ≤ b → b ≠ g9 ∧ b ≠ g11) := fun W h b hb => ⟨by omega, by omega⟩
  have HSM := Lib.hid (l16same_any (fun b => b ≠ g9 ∧ b ≠ g11) X (.map (some b8)) (.agg #[.slice VA n1 VC, .slice BA n2 BC]) (.map (some bd)) pn _ _ _ 0 W11 HST11.out HRS11.out HDB11.out HRL0.out (by decide) (Nat.le_trans HOKS.out.1 (by decide)) HOKS.out.2.2 (HPN.out W11 (Nat.le_refl _)))
  have s0 : W11.cell? ⟨g9, 0, none⟩ = some (.map (some b8)) := HG9B.out.cell 0
  have s1 : W11.cell? ⟨g9, 1, none⟩ = some (.int .i64 (pn : Int)) := HG9B.out.cell 1
  have s2 := HG9B.out.lt
  have s3 : W11.cell? ⟨g11, 0, none⟩ = some (.slice VA n1 VC) := HG11.out.cell 0
  have s4 : W11.cell? ⟨g11, 1, none⟩ = some (.slice BA n2 BC) := HG11.out.cell 1
  have s6 : W11.cell? ⟨g7, 0, none⟩ = some (.map (some bd)) := HG7B.out.cell 0
  have s7 := HG7B.out.lt
  have HW11 := Lib.hid hW11
  have HGE11 := Lib.hid hg11
  clear hrs10 hb10 hx11 hW11 hb911 hg11 hw11 HG9 HG79 HB9 HST9 HDB9 HNW
  go_upto_region 10 with (fail)
  rw [← HW11.out, ← HGE11.out]
  clear HW11 HGE11
  go_wp2_with fail
  clear s0 s1 s2 s3 s4 s6 s7
  refine HSM.out.mono ?_
  rintro e w12 ⟨rfl, hb12⟩
  have HPI : Hid (PlayI X g7 g9 g11 bd 0 w w12) := ⟨b8, pn, _, VA, n1, VC, BA, n2, BC, _, _, HG9B.out.up hb12, HG11.out.up hb12, HG7B.out.up hb12, HST11.out.up hb12, HRS11.out.up hb12, HRL0.out, HDB11.out.up hb12, Below.then HB11.out hb12 HB11.out.size⟩
  have hgw : w.heap.size ≤ g9 := by omega
  have hzz : g11 < w12.heap.size := Nat.lt_of_lt_of_le hz12 hb12.size
  clear hb12 HSM HG9B HG11 HG7B HST11 HRS11 HRL0 HDB11 HB11 HPN hz9 hz12 r5
  go_wp2_with fail
  go_loopw [12] (fun c wx => ∃ i : Nat, i ≤ L.length ∧ c = .int .i64 i ∧ PlayI X g7 g9 g11 bd i w wx) (fun c _ => L.length - (intOf c).toNat)
  case atStart => exact ⟨0, Nat.zero_le _, rfl, HPI.out⟩
  case round =>
    obtain ⟨i, hi, rfl, b, l, V, VA, n1, VC, BA, n2, BC, vs, bs, h1, h2, h3, h4, h5, h6, h7, h8⟩ := hrel
    have HBW : Hid (Below w.heap.size w wr) := h8
    clear HPI
    by_cases hil : i < L.length
    rotate_left
    · obtain rfl : i = L.length := by omega
      have r1 : ¬ (L.length : Int) < (L.length : Int) := by omega
      clear h1 h2 h3 h4 h5 h6 h7 h8
      go_wp2
      go_ret
      exact ⟨rfl, HBW.out⟩
    have r1 : (i : Int) < (L.length : Int) := by omega
    have r0 : (0 : Int) ≤ (i : Int) := by omega
    have r3 : IntKind.i64.wrap ((i : Int) + 1) = ((i + 1 : Nat) : Int) := by rw [IntWalk.i64_in _ (by omega)]; omega
    obtain ⟨lb, lo, rfl, hlb, hlc⟩ := HL.out (by intro e; rw [e] at hil; exact absurd hil (Nat.not_lt_zero _))
    obtain ⟨UA', UC', c0, c1, c2, -, hum⟩ := hlc i hil
    have HFT := Lib.hid (HFIT.out _ (List.getElem_mem hil))
    generalize L[i] = aj at *
    have HUM := Lib.hid hum
    have HT0 := Lib.hid h4
    have HRP0 := Lib.hid h5
    have HRL := Lib.hid h6
    have HD0 := Lib.hid h7
    have HA := Lib.hid h1
    have HC := Lib.hid h2
    have HE := Lib.hid h3
    have HG9L : Hid (g9 < wr.heap.size) := h1.lt
    have HG11L : Hid (g11 < wr.heap.size) := h2.lt
    have HLC := Lib.hid (And.intro hlb (And.intro c0 (And.intro c1 c2)))
    obtain ⟨wk, hwk⟩ : ∃ W, W = wr := ⟨_, rfl⟩
    subst hwk
    have HSS : Hid (∀ W, Below wk.heap.size wk W → W.cell? ⟨g9, 0, none⟩ = some (.map (some b)) ∧ W.cell? ⟨g9, 1, none⟩ = some (.int .i64 l) ∧ W.cell? ⟨g11, 0, none⟩ = some (.slice VA n1 VC) ∧ W.cell? ⟨g11, 1, none⟩ = some (.slice BA n2 BC) ∧ W.cell? ⟨lb, lo + i * 3, none⟩ = some (.int .u8 (aj.kind : Nat)) ∧ W.cell? ⟨lb, lo + i * 3 + 1, none⟩ = some (.int .i64 aj.num) ∧ W.cell? ⟨lb, lo + i * 3 + 2, none⟩ = some (.slice UA' aj.us.length UC')) := fun W hb => by
      have h := Below.then HBW.out hb HBW.out.size
      obtain ⟨hlb, c0, c1, c2⟩ := HLC.out
      exact ⟨(HA.out.up hb).cell 0, (HA.out.up hb).cell 1, (HC.out.up hb).cell 0, (HC.out.up hb).cell 1, (h.cell (p := ⟨lb, lo + i * 3, none⟩) hlb).trans c0, (h.cell (p := ⟨lb, lo + i * 3 + 1, none⟩) hlb).trans c1, (h.cell (p := ⟨lb, lo + i * 3 + 2, none⟩) hlb).trans c2⟩
    have HI60 : Hid (i ≤ 40) := by have := hL40; show i ≤ 40; omega
    clear h1 h2 h3 h4 h5 h6 h7 h8 hlb hlc c0 c1 c2 hum
    go_upto_region 15 with (fail)
    go_cut [13, 14, 15] from 58 to 68 (fun vp vq ve wx => ∃ gA gB b' l' V' VA' n1' VC' BA' n2' BC' vs' bs', vp = .pointer (some ⟨gA, 0, none⟩) ∧ vq = .pointer (some ⟨gB, 0, none⟩) ∧ ve = .bool true ∧ wk.heap.size ≤ gA ∧ wk.heap.size ≤ gB ∧ gA ≠ gB ∧ Row wx gA 31 [.map (some b'), .int .i64 l'] ∧ Row wx gB 66 [.slice VA' n1' VC', .slice BA' n2' BC'] ∧ StM (fun b => b ≠ g9 ∧ b ≠ g11) X wx (.map (some b')) V' ∧ RStP (fun b => b ≠ g9 ∧ b ≠ g11) wx (.agg #[.slice VA' n1' VC', .slice BA' n2' BC']) vs' bs' ∧ RelR X V' l' vs' bs' (i + 1) ∧ Below wk.heap.size wk wx)
    case first =>
      refine wp_region_held_drew (S := (fun w' => w'.cell? ⟨g9, 0, none⟩ = some (.map (some b)) ∧ w'.cell? ⟨g9, 1, none⟩ = some (.int .i64 l) ∧ w'.cell? ⟨g11, 0, none⟩ = some (.slice VA n1 VC) ∧ w'.cell? ⟨g11, 1, none⟩ = some (.slice BA n2 BC) ∧ w'.cell? ⟨lb, lo + i * 3, none⟩ = some (.int .u8 (aj.kind : Nat)) ∧ w'.cell? ⟨lb, lo + i * 3 + 1, none⟩ = some (.int .i64 aj.num) ∧ w'.cell? ⟨lb, lo + i * 3 + 2, none⟩ = some (.slice UA' aj.us.length UC'))) (by kernel_rfl) (HSS.out wk.drew (Below.refl _ _).drew) (fun hHeld => ?_)
      obtain ⟨V0, hV0⟩ : ∃ V, V = wk.drew := ⟨_, rfl⟩
      have HV : Hid (Below wk.heap.size wk V0) := by show Below _ _ _; rw [hV0]; exact ((Ext.refl wk).drew).below
      rw [← hV0]
      clear hV0
      have hHeld0 : V0.cell? ⟨g9, 0, none⟩ = some (.map (some b)) ∧ V0.cell? ⟨g9, 1, none⟩ = some (.int .i64 l) ∧ V0.cell? ⟨g11, 0, none⟩ = some (.slice VA n1 VC) ∧ V0.cell? ⟨g11, 1, none⟩ = some (.slice BA n2 BC) ∧ V0.cell? ⟨lb, lo + i * 3, none⟩ = some (.int .u8 (aj.kind : Nat)) ∧ V0.cell? ⟨lb, lo + i * 3 + 1, none⟩ = some (.int .i64 aj.num) ∧ V0.cell? ⟨lb, lo + i * 3 + 2, none⟩ = some (.slice UA' aj.us.length UC') := HSS.out V0 HV.out
      refine takeOp (i := 0) (v := ?_) (some 59) rfl rfl (by kernel_rfl) (by kernel_rfl) (by kernel_rfl) (fun _ _ _ h => h) (Or.inl ⟨by rfl, ?_⟩) (by assumption) ?_
      rotate_left 1
      · (intro w0 hSw; (try dsimp only at hSw); go_simp; try (with_reducible rfl))
      try simp only [Act.put]
      try simp only [List.setIfInBounds_toArray]
      try simp only [List.set_cons_succ]
      try simp only [List.set_cons_zero]
      refine takeOp (i := 1) (v := ?_) (some 60) rfl rfl (by kernel_rfl) (by kernel_rfl) (by kernel_rfl) (fun _ _ _ h => h) (Or.inl ⟨by rfl, ?_⟩) (by assumption) ?_
      rotate_left 1
      · (intro w0 hSw; (try dsimp only at hSw); go_simp; try (with_reducible rfl))
      try simp only [Act.put]
      try simp only [List.setIfInBounds_toArray]
      try simp only [List.set_cons_succ]
      try simp only [List.set_cons_zero]
      refine takeOp (i := 2) (v := ?_) (some 61) rfl rfl (by kernel_rfl) (by kernel_rfl) (by kernel_rfl) (fun _ _ _ h => h) (Or.inl ⟨by rfl, ?_⟩) (by assumption) ?_
      rotate_left 1
      · (intro w0 hSw; (try dsimp only at hSw); go_simp; try (with_reducible rfl))
      try simp only [Act.put]
      try simp only [List.setIfInBounds_toArray]
      try simp only [List.set_cons_succ]
      try simp only [List.set_cons_zero]
      refine takeOp (i := 3) (v := ?_) (some 62) rfl rfl (by kernel_rfl) (by kernel_rfl) (by kernel_rfl) (fun _ _ _ h => h) (Or.inl ⟨by rfl, ?_⟩) (by assumption) ?_
      rotate_left 1
      · (intro w0 hSw; (try dsimp only at hSw); go_simp; try (with_reducible rfl))
      try simp only [Act.put]
      try simp only [List.setIfInBounds_toArray]
      try simp only [List.set_cons_succ]
      try simp only [List.set_cons_zero]
      refine takeOp (i := 4) (v := ?_) (some 63) rfl rfl (by kernel_rfl) (by kernel_rfl) (by kernel_rfl) (fun _ _ _ h => h) (Or.inl ⟨by rfl, ?_⟩) (by assumption) ?_
      rotate_left 1
      · (intro w0 hSw; (try dsimp only at hSw); go_simp; try (with_reducible rfl))
      try simp only [Act.put]
      try simp only [List.setIfInBounds_toArray]
      try simp only [List.set_cons_succ]
      try simp only [List.set_cons_zero]
      refine takeOp (i := 5) (v := ?_) (some 64) rfl rfl (by kernel_rfl) (by kernel_rfl) (by kernel_rfl) (fun _ _ _ h => h) (Or.inl ⟨by rfl, ?_⟩) (by assumption) ?_
      rotate_left 1
      · (intro w0 hSw; (try dsimp only at hSw); go_simp; try (with_reducible rfl))
      try simp only [Act.put]
      try simp only [List.setIfInBounds_toArray]
      try simp only [List.set_cons_succ]
      try simp only [List.set_cons_zero]
      refine wpAnyH_ready (rs := [6, 11, 12]) (by kernel_rfl) (by simp) ?_
      refine (AllReadyH.cons rfl (fun K hK => ?_) (AllReadyH.cons rfl (fun K hK => ?_) (AllReadyH.cons rfl (fun K hK => ?_) AllReadyH.nil)))
      · go_simp
        refine (l16do_any (fun b => (b ≠ g9 ∧ b ≠ g11)) X (.map (some b)) (.agg #[.slice VA n1 VC, .slice BA n2 BC]) l V vs bs i aj UA' UC' V0 ((HT0.out.weak (P' := (fun b => (b ≠ g9 ∧ b ≠ g11))) fun b hb hp => hp).up HV.out) (HRP0.out.sub (P' := (fun b => (b ≠ g9 ∧ b ≠ g11))) HV.out fun b hb hp => hp) HRL.out (by omega) (Nat.le_trans HOKS.out.1 (by decide)) (fun b hb => by have h0 := HV.out.size; exact ⟨by have := HG9L.out; omega, by have := HG11L.out; omega⟩) HFT.out (fun w' hs => UpdsM.stay HUM.out (Below.then HBW.out HV.out HBW.out.size) (fun b hb => ⟨by omega, by omega⟩) hs)).mono ?_
        rintro e V1 ⟨m', l', rv, V', vs', bs', rfl, hst', hrs', hrl', hb'⟩
        obtain ⟨b', rfl⟩ := hst'.form
        obtain ⟨n1', VA', VC', n2', BA', BC', rfl⟩ := hrs'.shape
        have HT := Lib.hid hst'
        have HRP := Lib.hid hrs'
        have HRL' := Lib.hid hrl'
        have HV := Lib.hid (Below.then HV.out hb' HV.out.size)
        clear hst' hrs' hrl' hb'
        go_wp2_with fail
        refine hK.out _ _ (HSS.out V1 HV.out) (fun hHeld => ?_)
        clear hK K
        try simp only [Act.put]
        try simp only [List.setIfInBounds_toArray]
        try simp only [List.set_cons_succ]
        try simp only [List.set_cons_zero]
        refine takeOp (i := 7) (v := ?_) (some 58) rfl rfl (by kernel_rfl) (by kernel_rfl) (by kernel_rfl) (fun _ _ _ h => h) (Or.inl ⟨by rfl, ?_⟩) (by assumption) ?_
        rotate_left 1
        · (intro w0 hSw; (try dsimp only at hSw); go_simp; try (with_reducible rfl))
        try simp only [Act.put]
        try simp only [List.setIfInBounds_toArray]
        try simp only [List.set_cons_succ]
        try simp only [List.set_cons_zero]
        refine takeOp (i := 8) (v := ?_) (some 66) rfl rfl (by kernel_rfl) (by kernel_rfl) (by kernel_rfl) (fun _ _ _ h => h) (Or.inl ⟨by rfl, ?_⟩) (by assumption) ?_
        rotate_left 1
        · (intro w0 hSw; (try dsimp only at hSw); go_simp; try (with_reducible rfl))
        try simp only [Act.put]
        try simp only [List.setIfInBounds_toArray]
        try simp only [List.set_cons_succ]
        try simp only [List.set_cons_zero]
        refine takeOp (i := 9) (v := ?_) (some 67) rfl rfl (by kernel_rfl) (by kernel_rfl) (by kernel_rfl) (fun _ _ _ h => h) (Or.inl ⟨by rfl, ?_⟩) (by assumption) ?_
        rotate_left 1
        · (intro w0 hSw; (try dsimp only at hSw); go_simp; try (with_reducible rfl))
        try simp only [Act.put]
        try simp only [List.setIfInBounds_toArray]
        try simp only [List.set_cons_succ]
        try simp only [List.set_cons_zero]
        refine takeOp (i := 10) (v := ?_) (some 68) rfl rfl (by kernel_rfl) (by kernel_rfl) (by kernel_rfl) (fun _ _ _ h => h) (Or.inl ⟨by rfl, ?_⟩) (by assumption) ?_
        rotate_left 1
        · (intro w0 hSw; (try dsimp only at hSw); go_simp; try (with_reducible rfl))
        try simp only [Act.put]
        try simp only [List.setIfInBounds_toArray]
        try simp only [List.set_cons_succ]
        try simp only [List.set_cons_zero]
        refine wpAnyH_ready (rs := [11, 12]) (by kernel_rfl) (by simp) ?_
        refine (AllReadyH.cons rfl (fun K hK => ?_) (AllReadyH.cons rfl (fun K hK => ?_) AllReadyH.nil))
        · go_simp
          obtain ⟨V2, hV⟩ : ∃ V', V' = V1.alloc (.cells #[.map none, .int .i64 0] 31) := ⟨_, rfl⟩
          rw [← hV]
          have hx : Ext V1 V2 := by rw [hV]; exact (Ext.refl V1).alloc _
          have HGN : Hid (Row V2 V1.heap.size 31 [.map none, .int .i64 0]) := by show Row _ _ _ _; rw [hV]; exact Row.new V1 31 _
          have HZA := Lib.hid HV.out.size
          have HT := Lib.hid ((HT.out.but (Nat.le_refl _)).up hx.below)
          have HRP := Lib.hid (HRP.out.sub (P' := (fun b => ((b ≠ g9 ∧ b ≠ g11) ∧ b ≠ V1.heap.size))) hx.below fun b hb hp => ⟨hp, by omega⟩)
          have HGA := HGN
          have HLTA : Hid (V1.heap.size < V2.heap.size) := HGN.out.lt
          have HV := Lib.hid (Below.then HV.out hx.below HV.out.size)
          clear hx hV HGN
          refine hK.out _ _ (HSS.out V2 HV.out) (fun hHeld => ?_)
          clear hK K
          try simp only [Act.put]
          try simp only [List.setIfInBounds_toArray]
          try simp only [List.set_cons_succ]
          try simp only [List.set_cons_zero]
          refine wpAnyH_ready (rs := [12]) (by kernel_rfl) (by simp) ?_
          refine (AllReadyH.cons rfl (fun K hK => ?_) AllReadyH.nil)
          go_simp
          obtain ⟨V3, hV⟩ : ∃ V', V' = V2.alloc (.cells #[.slice none 0 0, .slice none 0 0] 66) := ⟨_, rfl⟩
          rw [← hV]
          have hx : Ext V2 V3 := by rw [hV]; exact (Ext.refl V2).alloc _
          have HGN : Hid (Row V3 V2.heap.size 66 [.slice none 0 0, .slice none 0 0]) := by show Row _ _ _ _; rw [hV]; exact Row.new V2 66 _
          have HZB := Lib.hid HV.out.size
          have HGA := Lib.hid (HGA.out.up hx.below)
          have HT := Lib.hid ((HT.out.but (Nat.le_refl _)).up hx.below)
          have HRP := Lib.hid (HRP.out.sub (P' := (fun b => (((b ≠ g9 ∧ b ≠ g11) ∧ b ≠ V1.heap.size) ∧ b ≠ V2.heap.size))) hx.below fun b hb hp => ⟨hp, by omega⟩)
          have HGB := HGN
          have HNE : Hid (V1.heap.size ≠ V2.heap.size) := by have := HLTA.out; show _ ≠ _; omega
          have HLTB : Hid (V2.heap.size < V3.heap.size) := HGN.out.lt
          have HLTA := Lib.hid (Nat.lt_of_lt_of_le HLTA.out hx.size)
          have HV := Lib.hid (Below.then HV.out hx.below HV.out.size)
          clear hx hV HGN
          refine hK.out _ _ (HSS.out V3 HV.out) (fun hHeld => ?_)
          clear hK K
          try simp only [Act.put]
          try simp only [List.setIfInBounds_toArray]
          try simp only [List.set_cons_succ]
          try simp only [List.set_cons_zero]
          refine wpAnyH_ready (rs := [13]) (by kernel_rfl) (by simp) ?_
          refine (AllReadyH.cons rfl (fun K hK => ?_) AllReadyH.nil)
          have m0 : V3.cell? ⟨V1.heap.size, 0, none⟩ = some (.map none) := HGA.out.cell 0
          have m1 : V3.cell? ⟨V1.heap.size, 1, none⟩ = some (.int .i64 0) := HGA.out.cell 1
          have m2 := HGA.out.frozen 0
          have m3 := HGA.out.frozen 1
          have m4 := HGA.out.lt
          go_simp
          obtain ⟨V4, hV⟩ : ∃ V', V' = (V3.setCell ⟨V1.heap.size, 0, none⟩ (.map (some b'))).setCell ⟨V1.heap.size, 1, none⟩ (.int .i64 l') := ⟨_, rfl⟩
          rw [← hV]
          have HGA : Hid (Row V4 V1.heap.size 31 [(.map (some b')), (.int .i64 l')]) := by show Row _ _ _ _; rw [hV]; exact HGA.out.set2 _ _
          have HGB : Hid (Row V4 V2.heap.size 66 [.slice none 0 0, .slice none 0 0]) := by show Row _ _ _ _; rw [hV]; exact (HGB.out.far (fun e => HNE.out e.symm) _).far (fun e => HNE.out e.symm) _
          have HS : Hid (Stay (fun b => (((b ≠ g9 ∧ b ≠ g11) ∧ b ≠ V1.heap.size) ∧ b ≠ V2.heap.size)) V3 V4) := by show Stay _ _ _; rw [hV]; exact (Stay.set (fun h => h.1.2 rfl) _ _).trans (Stay.set (fun h => h.1.2 rfl) _ _)
          have HT := Lib.hid (HT.out.keep HS.out)
          have HRP := Lib.hid (HRP.out.keep HS.out)
          have HV : Hid (Below wk.heap.size wk V4) := by show Below _ _ _; rw [hV]; exact (HV.out.setCell HZA.out _).setCell HZA.out _
          clear m0 m1 m2 m3 m4 hV HS
          refine hK.out _ _ (HSS.out V4 HV.out) (fun hHeld => ?_)
          clear hK K
          try simp only [Act.put]
          try simp only [List.setIfInBounds_toArray]
          try simp only [List.set_cons_succ]
          try simp only [List.set_cons_zero]
          refine wpAnyH_ready (rs := [14]) (by kernel_rfl) (by simp) ?_
          refine (AllReadyH.cons rfl (fun K hK => ?_) AllReadyH.nil)
          have m0 : V4.cell? ⟨V2.heap.size, 0, none⟩ = some (.slice none 0 0) := HGB.out.cell 0
          have m1 : V4.cell? ⟨V2.heap.size, 1, none⟩ = some (.slice none 0 0) := HGB.out.cell 1
          have m2 := HGB.out.frozen 0
          have m3 := HGB.out.frozen 1
          have m4 := HGB.out.lt
          go_simp
          obtain ⟨V5, hV⟩ : ∃ V', V' = (V4.setCell ⟨V2.heap.size, 0, none⟩ (.slice VA' n1' VC')).setCell ⟨V2.heap.size, 1, none⟩ (.slice BA' n2' BC') := ⟨_, rfl⟩
          rw [← hV]
          have HGB : Hid (Row V5 V2.heap.size 66 [(.slice VA' n1' VC'), (.slice BA' n2' BC')]) := by show Row _ _ _ _; rw [hV]; exact HGB.out.set2 _ _
          have HGA : Hid (Row V5 V1.heap.size 31 [.map (some b'), .int .i64 l']) := by show Row _ _ _ _; rw [hV]; exact (HGA.out.far (fun e => HNE.out e) _).far (fun e => HNE.out e) _
          have HS : Hid (Stay (fun b => (((b ≠ g9 ∧ b ≠ g11) ∧ b ≠ V1.heap.size) ∧ b ≠ V2.heap.size)) V4 V5) := by show Stay _ _ _; rw [hV]; exact (Stay.set (fun h => h.2 rfl) _ _).trans (Stay.set (fun h => h.2 rfl) _ _)
          have HT := Lib.hid (HT.out.keep HS.out)
          have HRP := Lib.hid (HRP.out.keep HS.out)
          have HV : Hid (Below wk.heap.size wk V5) := by show Below _ _ _; rw [hV]; exact (HV.out.setCell HZB.out _).setCell HZB.out _
          clear m0 m1 m2 m3 m4 hV HS
          refine hK.out _ _ (HSS.out V5 HV.out) (fun hHeld => ?_)
          clear hK K
          try simp only [Act.put]
          try simp only [List.setIfInBounds_toArray]
          try simp only [List.set_cons_succ]
          try simp only [List.set_cons_zero]
          refine takeOp (i := 15) (v := ?_) (some 15) rfl rfl (by kernel_rfl) (by kernel_rfl) (by kernel_rfl) (fun _ _ _ h => h) (Or.inl ⟨by rfl, ?_⟩) (by assumption) ?_
          rotate_left 1
          · (intro w0 hSw; (try dsimp only at hSw); go_simp; try (with_reducible rfl))
          try simp only [Act.put]
          try simp only [List.setIfInBounds_toArray]
          try simp only [List.set_cons_succ]
          try simp only [List.set_cons_zero]
          refine wpAnyH_done (by kernel_rfl) ?_ _
          go_wp2_with fail
          go_meet
          case rel => exact ⟨V1.heap.size, V2.heap.size, b', l', V', VA', n1', VC', BA', n2', BC', vs', bs', rfl, rfl, rfl, HZA.out, HZB.out, HNE.out, HGA.out, HGB.out, HT.out.weak (fun b _ hp => hp.1.1), HRP.out.weak (fun b hp => hp.1.1), HRL'.out, HV.out⟩
        · go_simp
          obtain ⟨V2, hV⟩ : ∃ V', V' = V1.alloc (.cells #[.slice none 0 0, .slice none 0 0] 66) := ⟨_, rfl⟩
          rw [← hV]
          have hx : Ext V1 V2 := by rw [hV]; exact (Ext.refl V1).alloc _
          have HGN : Hid (Row V2 V1.heap.size 66 [.slice none 0 0, .slice none 0 0]) := by show Row _ _ _ _; rw [hV]; exact Row.new V1 66 _
          have HZB := Lib.hid HV.out.size
          have HT := Lib.hid ((HT.out.but (Nat.le_refl _)).up hx.below)
          have HRP := Lib.hid (HRP.out.sub (P' := (fun b => ((b ≠ g9 ∧ b ≠ g11) ∧ b ≠ V1.heap.size))) hx.below fun b hb hp => ⟨hp, by omega⟩)
          have HGB := HGN
          have HLTB : Hid (V1.heap.size < V2.heap.size) := HGN.out.lt
          have HV := Lib.hid (Below.then HV.out hx.below HV.out.size)
          clear hx hV HGN
          refine hK.out _ _ (HSS.out V2 HV.out) (fun hHeld => ?_)
          clear hK K
          try simp only [Act.put]
          try simp only [List.setIfInBounds_toArray]
          try simp only [List.set_cons_succ]
          try simp only [List.set_cons_zero]
          refine wpAnyH_ready (rs := [11]) (by kernel_rfl) (by simp) ?_
          refine (AllReadyH.cons rfl (fun K hK => ?_) AllReadyH.nil)
          go_simp
          obtain ⟨V3, hV⟩ : ∃ V', V' = V2.alloc (.cells #[.map none, .int .i64 0] 31) := ⟨_, rfl⟩
          rw [← hV]
          have hx : Ext V2 V3 := by rw [hV]; exact (Ext.refl V2).alloc _
          have HGN : Hid (Row V3 V2.heap.size 31 [.map none, .int .i64 0]) := by show Row _ _ _ _; rw [hV]; exact Row.new V2 31 _
          have HZA := Lib.hid HV.out.size
          have HGB := Lib.hid (HGB.out.up hx.below)
          have HT := Lib.hid ((HT.out.but (Nat.le_refl _)).up hx.below)
          have HRP := Lib.hid (HRP.out.sub (P' := (fun b => (((b ≠ g9 ∧ b ≠ g11) ∧ b ≠ V1.heap.size) ∧ b ≠ V2.heap.size))) hx.below fun b hb hp => ⟨hp, by omega⟩)
          have HGA := HGN
          have HNE : Hid (V2.heap.size ≠ V1.heap.size) := by have := HLTB.out; show _ ≠ _; omega
          have HLTA : Hid (V2.heap.size < V3.heap.size) := HGN.out.lt
          have HLTB := Lib.hid (Nat.lt_of_lt_of_le HLTB.out hx.size)
          have HV := Lib.hid (Below.then HV.out hx.below HV.out.size)
          clear hx hV HGN
          refine hK.out _ _ (HSS.out V3 HV.out) (fun hHeld => ?_)
          clear hK K
          try simp only [Act.put]
          try simp only [List.setIfInBounds_toArray]
          try simp only [List.set_cons_succ]
          try simp only [List.set_cons_zero]
          refine wpAnyH_ready (rs := [13]) (by kernel_rfl) (by simp) ?_
          refine (AllReadyH.cons rfl (fun K hK => ?_) AllReadyH.nil)
          have m0 : V3.cell? ⟨V2.heap.size, 0, none⟩ = some (.map none) := HGA.out.cell 0
          have m1 : V3.cell? ⟨V2.heap.size, 1, none⟩ = some (.int .i64 0) := HGA.out.cell 1
          have m2 := HGA.out.frozen 0
          have m3 := HGA.out.frozen 1
          have m4 := HGA.out.lt
          go_simp
          obtain ⟨V4, hV⟩ : ∃ V', V' = (V3.setCell ⟨V2.heap.size, 0, none⟩ (.map (some b'))).setCell ⟨V2.heap.size, 1, none⟩ (.int .i64 l') := ⟨_, rfl⟩
          rw [← hV]
          have HGA : Hid (Row V4 V2.heap.size 31 [(.map (some b')), (.int .i64 l')]) := by show Row _ _ _ _; rw [hV]; exact HGA.out.set2 _ _
          have HGB : Hid (Row V4 V1.heap.size 66 [.slice none 0 0, .slice none 0 0]) := by show Row _ _ _ _; rw [hV]; exact (HGB.out.far (fun e => HNE.out e.symm) _).far (fun e => HNE.out e.symm) _
          have HS : Hid (Stay (fun b => (((b ≠ g9 ∧ b ≠ g11) ∧ b ≠ V1.heap.size) ∧ b ≠ V2.heap.size)) V3 V4) := by show Stay _ _ _; rw [hV]; exact (Stay.set (fun h => h.2 rfl) _ _).trans (Stay.set (fun h => h.2 rfl) _ _)
          have HT := Lib.hid (HT.out.keep HS.out)
          have HRP := Lib.hid (HRP.out.keep HS.out)
          have HV : Hid (Below wk.heap.size wk V4) := by show Below _ _ _; rw [hV]; exact (HV.out.setCell HZA.out _).setCell HZA.out _
          clear m0 m1 m2 m3 m4 hV HS
          refine hK.out _ _ (HSS.out V4 HV.out) (fun hHeld => ?_)
          clear hK K
          try simp only [Act.put]
          try simp only [List.setIfInBounds_toArray]
          try simp only [List.set_cons_succ]
          try simp only [List.set_cons_zero]
          refine wpAnyH_ready (rs := [14]) (by kernel_rfl) (by simp) ?_
          refine (AllReadyH.cons rfl (fun K hK => ?_) AllReadyH.nil)
          have m0 : V4.cell? ⟨V1.heap.size, 0, none⟩ = some (.slice none 0 0) := HGB.out.cell 0
          have m1 : V4.cell? ⟨V1.heap.size, 1, none⟩ = some (.slice none 0 0) := HGB.out.cell 1
          have m2 := HGB.out.frozen 0
          have m3 := HGB.out.frozen 1
          have m4 := HGB.out.lt
          go_simp
          obtain ⟨V5, hV⟩ : ∃ V', V' = (V4.setCell ⟨V1.heap.size, 0, none⟩ (.slice VA' n1' VC')).setCell ⟨V1.heap.size, 1, none⟩ (.slice BA' n2' BC') := ⟨_, rfl⟩
          rw [← hV]
          have HGB : Hid (Row V5 V1.heap.size 66 [(.slice VA' n1' VC'), (.slice BA' n2' BC')]) := by show Row _ _ _ _; rw [hV]; exact HGB.out.set2 _ _
          have HGA : Hid (Row V5 V2.heap.size 31 [.map (some b'), .int .i64 l']) := by show Row _ _ _ _; rw [hV]; exact (HGA.out.far (fun e => HNE.out e) _).far (fun e => HNE.out e) _
          have HS : Hid (Stay (fun b => (((b ≠ g9 ∧ b ≠ g11) ∧ b ≠ V1.heap.size) ∧ b ≠ V2.heap.size)) V4 V5) := by show Stay _ _ _; rw [hV]; exact (Stay.set (fun h => h.1.2 rfl) _ _).trans (Stay.set (fun h => h.1.2 rfl) _ _)
          have HT := Lib.hid (HT.out.keep HS.out)
          have HRP := Lib.hid (HRP.out.keep HS.out)
          have HV : Hid (Below wk.heap.size wk V5) := by show Below _ _ _; rw [hV]; exact (HV.out.setCell HZB.out _).setCell HZB.out _
          clear m0 m1 m2 m3 m4 hV HS
          refine hK.out _ _ (HSS.out V5 HV.out) (fun hHeld => ?_)
          clear hK K
          try simp only [Act.put]
          try simp only [List.setIfInBounds_toArray]
          try simp only [List.set_cons_succ]
          try simp only [List.set_cons_zero]
          refine takeOp (i := 15) (v := ?_) (some 15) rfl rfl (by kernel_rfl) (by kernel_rfl) (by kernel_rfl) (fun _ _ _ h => h) (Or.inl ⟨by rfl, ?_⟩) (by assumption) ?_
          rotate_left 1
          · (intro w0 hSw; (try dsimp only at hSw); go_simp; try (with_reducible rfl))
          try simp only [Act.put]
          try simp only [List.setIfInBounds_toArray]
          try simp only [List.set_cons_succ]
          try simp only [List.set_cons_zero]
          refine wpAnyH_done (by kernel_rfl) ?_ _
          go_wp2_with fail
          go_meet
          case rel => exact ⟨V2.heap.size, V1.heap.size, b', l', V', VA', n1', VC', BA', n2', BC', vs', bs', rfl, rfl, rfl, HZA.out, HZB.out, HNE.out, HGA.out, HGB.out, HT.out.weak (fun b _ hp => hp.1.1), HRP.out.weak (fun b hp => hp.1.1), HRL'.out, HV.out⟩
      · go_simp
        obtain ⟨V1, hV⟩ : ∃ V', V' = V0.alloc (.cells #[.map none, .int .i64 0] 31) := ⟨_, rfl⟩
        rw [← hV]
        have hx : Ext V0 V1 := by rw [hV]; exact (Ext.refl V0).alloc _
        have HGN : Hid (Row V1 V0.heap.size 31 [.map none, .int .i64 0]) := by show Row _ _ _ _; rw [hV]; exact Row.new V0 31 _
        have HZA := Lib.hid HV.out.size
        have HGA := HGN
        have HLTA : Hid (V0.heap.size < V1.heap.size) := HGN.out.lt
        have HV := Lib.hid (Below.then HV.out hx.below HV.out.size)
        clear hx hV HGN
        refine hK.out _ _ (HSS.out V1 HV.out) (fun hHeld => ?_)
        clear hK K
        try simp only [Act.put]
        try simp only [List.setIfInBounds_toArray]
        try simp only [List.set_cons_succ]
        try simp only [List.set_cons_zero]
        refine wpAnyH_ready (rs := [6, 12]) (by kernel_rfl) (by simp) ?_
        refine (AllReadyH.cons rfl (fun K hK => ?_) (AllReadyH.cons rfl (fun K hK => ?_) AllReadyH.nil))
        · go_simp
          refine (l16do_any (fun b => ((b ≠ g9 ∧ b ≠ g11) ∧ b ≠ V0.heap.size)) X (.map (some b)) (.agg #[.slice VA n1 VC, .slice BA n2 BC]) l V vs bs i aj UA' UC' V1 ((HT0.out.weak (P' := (fun b => ((b ≠ g9 ∧ b ≠ g11) ∧ b ≠ V0.heap.size))) fun b hb hp => ⟨hp, by have := HZA.out; omega⟩).up HV.out) (HRP0.out.sub (P' := (fun b => ((b ≠ g9 ∧ b ≠ g11) ∧ b ≠ V0.heap.size))) HV.out fun b hb hp => ⟨hp, by have := HZA.out; omega⟩) HRL.out (by omega) (Nat.le_trans HOKS.out.1 (by decide)) (fun b hb => by have h0 := HV.out.size; exact ⟨⟨by have := HG9L.out; omega, by have := HG11L.out; omega⟩, by have := HLTA.out; omega⟩) HFT.out (fun w' hs => UpdsM.stay HUM.out (Below.then HBW.out HV.out HBW.out.size) (fun b hb => ⟨⟨by omega, by omega⟩, by have := HZA.out; have := HBW.out.size; omega⟩) hs)).mono ?_
          rintro e V2 ⟨m', l', rv, V', vs', bs', rfl, hst', hrs', hrl', hb'⟩
          obtain ⟨b', rfl⟩ := hst'.form
          obtain ⟨n1', VA', VC', n2', BA', BC', rfl⟩ := hrs'.shape
          have HT := Lib.hid hst'
          have HRP := Lib.hid hrs'
          have HRL' := Lib.hid hrl'
          have HGA := Lib.hid (HGA.out.up hb')
          have HLTA := Lib.hid (Nat.lt_of_lt_of_le HLTA.out hb'.size)
          have HV := Lib.hid (Below.then HV.out hb' HV.out.size)
          clear hst' hrs' hrl' hb'
          go_wp2_with fail
          refine hK.out _ _ (HSS.out V2 HV.out) (fun hHeld => ?_)
          clear hK K
          try simp only [Act.put]
          try simp only [List.setIfInBounds_toArray]
          try simp only [List.set_cons_succ]
          try simp only [List.set_cons_zero]
          refine takeOp (i := 7) (v := ?_) (some 58) rfl rfl (by kernel_rfl) (by kernel_rfl) (by kernel_rfl) (fun _ _ _ h => h) (Or.inl ⟨by rfl, ?_⟩) (by assumption) ?_
          rotate_left 1
          · (intro w0 hSw; (try dsimp only at hSw); go_simp; try (with_reducible rfl))
          try simp only [Act.put]
          try simp only [List.setIfInBounds_toArray]
          try simp only [List.set_cons_succ]
          try simp only [List.set_cons_zero]
          refine takeOp (i := 8) (v := ?_) (some 66) rfl rfl (by kernel_rfl) (by kernel_rfl) (by kernel_rfl) (fun _ _ _ h => h) (Or.inl ⟨by rfl, ?_⟩) (by assumption) ?_
          rotate_left 1
          · (intro w0 hSw; (try dsimp only at hSw); go_simp; try (with_reducible rfl))
          try simp only [Act.put]
          try simp only [List.setIfInBounds_toArray]
          try simp only [List.set_cons_succ]
          try simp only [List.set_cons_zero]
          refine takeOp (i := 9) (v := ?_) (some 67) rfl rfl (by kernel_rfl) (by kernel_rfl) (by kernel_rfl) (fun _ _ _ h => h) (Or.inl ⟨by rfl, ?_⟩) (by assumption) ?_
          rotate_left 1
          · (intro w0 hSw; (try dsimp only at hSw); go_simp; try (with_reducible rfl))
          try simp only [Act.put]
          try simp only [List.setIfInBounds_toArray]
          try simp only [List.set_cons_succ]
          try simp only [List.set_cons_zero]
          refine takeOp (i := 10) (v := ?_) (some 68) rfl rfl (by kernel_rfl) (by kernel_rfl) (by kernel_rfl) (fun _ _ _ h => h) (Or.inl ⟨by rfl, ?_⟩) (by assumption) ?_
          rotate_left 1
          · (intro w0 hSw; (try dsimp only at hSw); go_simp; try (with_reducible rfl))
          try simp only [Act.put]
          try simp only [List.setIfInBounds_toArray]
          try simp only [List.set_cons_succ]
          try simp only [List.set_cons_zero]
          refine wpAnyH_ready (rs := [12]) (by kernel_rfl) (by simp) ?_
          refine (AllReadyH.cons rfl (fun K hK => ?_) AllReadyH.nil)
          go_simp
          obtain ⟨V3, hV⟩ : ∃ V', V' = V2.alloc (.cells #[.slice none 0 0, .slice none 0 0] 66) := ⟨_, rfl⟩
          rw [← hV]
          have hx : Ext V2 V3 := by rw [hV]; exact (Ext.refl V2).alloc _
          have HGN : Hid (Row V3 V2.heap.size 66 [.slice none 0 0, .slice none 0 0]) := by show Row _ _ _ _; rw [hV]; exact Row.new V2 66 _
          have HZB := Lib.hid HV.out.size
          have HGA := Lib.hid (HGA.out.up hx.below)
          have HT := Lib.hid ((HT.out.but (Nat.le_refl _)).up hx.below)
          have HRP := Lib.hid (HRP.out.sub (P' := (fun b => (((b ≠ g9 ∧ b ≠ g11) ∧ b ≠ V0.heap.size) ∧ b ≠ V2.heap.size))) hx.below fun b hb hp => ⟨hp, by omega⟩)
          have HGB := HGN
          have HNE : Hid (V0.heap.size ≠ V2.heap.size) := by have := HLTA.out; show _ ≠ _; omega
          have HLTB : Hid (V2.heap.size < V3.heap.size) := HGN.out.lt
          have HLTA := Lib.hid (Nat.lt_of_lt_of_le HLTA.out hx.size)
          have HV := Lib.hid (Below.then HV.out hx.below HV.out.size)
          clear hx hV HGN
          refine hK.out _ _ (HSS.out V3 HV.out) (fun hHeld => ?_)
          clear hK K
          try simp only [Act.put]
          try simp only [List.setIfInBounds_toArray]
          try simp only [List.set_cons_succ]
          try simp only [List.set_cons_zero]
          refine wpAnyH_ready (rs := [13]) (by kernel_rfl) (by simp) ?_
          refine (AllReadyH.cons rfl (fun K hK => ?_) AllReadyH.nil)
          have m0 : V3.cell? ⟨V0.heap.size, 0, none⟩ = some (.map none) := HGA.out.cell 0
          have m1 : V3.cell? ⟨V0.heap.size, 1, none⟩ = some (.int .i64 0) := HGA.out.cell 1
          have m2 := HGA.out.frozen 0
          have m3 := HGA.out.frozen 1
          have m4 := HGA.out.lt
          go_simp
          obtain ⟨V4, hV⟩ : ∃ V', V' = (V3.setCell ⟨V0.heap.size, 0, none⟩ (.map (some b'))).setCell ⟨V0.heap.size, 1, none⟩ (.int .i64 l') := ⟨_, rfl⟩
          rw [← hV]
          have HGA : Hid (Row V4 V0.heap.size 31 [(.map (some b')), (.int .i64 l')]) := by show Row _ _ _ _; rw [hV]; exact HGA.out.set2 _ _
          have HGB : Hid (Row V4 V2.heap.size 66 [.slice none 0 0, .slice none 0 0]) := by show Row _ _ _ _; rw [hV]; exact (HGB.out.far (fun e => HNE.out e.symm) _).far (fun e => HNE.out e.symm) _
          have HS : Hid (Stay (fun b => (((b ≠ g9 ∧ b ≠ g11) ∧ b ≠ V0.heap.size) ∧ b ≠ V2.heap.size)) V3 V4) := by show Stay _ _ _; rw [hV]; exact (Stay.set (fun h => h.1.2 rfl) _ _).trans (Stay.set (fun h => h.1.2 rfl) _ _)
          have HT := Lib.hid (HT.out.keep HS.out)
          have HRP := Lib.hid (HRP.out.keep HS.out)
          have HV : Hid (Below wk.heap.size wk V4) := by show Below _ _ _; rw [hV]; exact (HV.out.setCell HZA.out _).setCell HZA.out _
          clear m0 m1 m2 m3 m4 hV HS
          refine hK.out _ _ (HSS.out V4 HV.out) (fun hHeld => ?_)
          clear hK K
          try simp only [Act.put]
          try simp only [List.setIfInBounds_toArray]
          try simp only [List.set_cons_succ]
          try simp only [List.set_cons_zero]
          refine wpAnyH_ready (rs := [14]) (by kernel_rfl) (by simp) ?_
          refine (AllReadyH.cons rfl (fun K hK => ?_) AllReadyH.nil)
          have m0 : V4.cell? ⟨V2.heap.size, 0, none⟩ = some (.slice none 0 0) := HGB.out.cell 0
          have m1 : V4.cell? ⟨V2.heap.size, 1, none⟩ = some (.slice none 0 0) := HGB.out.cell 1
          have m2 := HGB.out.frozen 0
          have m3 := HGB.out.frozen 1
          have m4 := HGB.out.lt
          go_simp
          obtain ⟨V5, hV⟩ : ∃ V', V' = (V4.setCell ⟨V2.heap.size, 0, none⟩ (.slice VA' n1' VC')).setCell ⟨V2.heap.size, 1, none⟩ (.slice BA' n2' BC') := ⟨_, rfl⟩
          rw [← hV]
          have HGB : Hid (Row V5 V2.heap.size 66 [(.slice VA' n1' VC'), (.slice BA' n2' BC')]) := by show Row _ _ _ _; rw [hV]; exact HGB.out.set2 _ _
          have HGA : Hid (Row V5 V0.heap.size 31 [.map (some b'), .int .i64 l']) := by show Row _ _ _ _; rw [hV]; exact (HGA.out.far (fun e => HNE.out e) _).far (fun e => HNE.out e) _
          have HS : Hid (Stay (fun b => (((b ≠ g9 ∧ b ≠ g11) ∧ b ≠ V0.heap.size) ∧ b ≠ V2.heap.size)) V4 V5) := by show Stay _ _ _; rw [hV]; exact (Stay.set (fun h => h.2 rfl) _ _).trans (Stay.set (fun h => h.2 rfl) _ _)
          have HT := Lib.hid (HT.out.keep HS.out)
          have HRP := Lib.hid (HRP.out.keep HS.out)
          have HV : Hid (Below wk.heap.size wk V5) := by show Below _ _ _; rw [hV]; exact (HV.out.setCell HZB.out _).setCell HZB.out _
          clear m0 m1 m2 m3 m4 hV HS
          refine hK.out _ _ (HSS.out V5 HV.out) (fun hHeld => ?_)
          clear hK K
          try simp only [Act.put]
          try simp only [List.setIfInBounds_toArray]
          try simp only [List.set_cons_succ]
          try simp only [List.set_cons_zero]
          refine takeOp (i := 15) (v := ?_) (some 15) rfl rfl (by kernel_rfl) (by kernel_rfl) (by kernel_rfl) (fun _ _ _ h => h) (Or.inl ⟨by rfl, ?_⟩) (by assumption) ?_
          rotate_left 1
          · (intro w0 hSw; (try dsimp only at hSw); go_simp; try (with_reducible rfl))
          try simp only [Act.put]
          try simp only [List.setIfInBounds_toArray]
          try simp only [List.set_cons_succ]
          try simp only [List.set_cons_zero]
          refine wpAnyH_done (by kernel_rfl) ?_ _
          go_wp2_with fail
          go_meet
          case rel => exact ⟨V0.heap.size, V2.heap.size, b', l', V', VA', n1', VC', BA', n2', BC', vs', bs', rfl, rfl, rfl, HZA.out, HZB.out, HNE.out, HGA.out, HGB.out, HT.out.weak (fun b _ hp => hp.1.1), HRP.out.weak (fun b hp => hp.1.1), HRL'.out, HV.out⟩
        · go_simp
          obtain ⟨V2, hV⟩ : ∃ V', V' = V1.alloc (.cells #[.slice none 0 0, .slice none 0 0] 66) := ⟨_, rfl⟩
          rw [← hV]
          have hx : Ext V1 V2 := by rw [hV]; exact (Ext.refl V1).alloc _
          have HGN : Hid (Row V2 V1.heap.size 66 [.slice none 0 0, .slice none 0 0]) := by show Row _ _ _ _; rw [hV]; exact Row.new V1 66 _
          have HZB := Lib.hid HV.out.size
          have HGA := Lib.hid (HGA.out.up hx.below)
          have HGB := HGN
          have HNE : Hid (V0.heap.size ≠ V1.heap.size) := by have := HLTA.out; show _ ≠ _; omega
          have HLTB : Hid (V1.heap.size < V2.heap.size) := HGN.out.lt
          have HLTA := Lib.hid (Nat.lt_of_lt_of_le HLTA.out hx.size)
          have HV := Lib.hid (Below.then HV.out hx.below HV.out.size)
          clear hx hV HGN
          refine hK.out _ _ (HSS.out V2 HV.out) (fun hHeld => ?_)
          clear hK K
          try simp only [Act.put]
          try simp only [List.setIfInBounds_toArray]
          try simp only [List.set_cons_succ]
          try simp only [List.set_cons_zero]
          refine wpAnyH_ready (rs := [6]) (by kernel_rfl) (by simp) ?_
          refine (AllReadyH.cons rfl (fun K hK => ?_) AllReadyH.nil)
          go_simp
          refine (l16do_any (fun b => (((b ≠ g9 ∧ b ≠ g11) ∧ b ≠ V0.heap.size) ∧ b ≠ V1.heap.size)) X (.map (some b)) (.agg #[.slice VA n1 VC, .slice BA n2 BC]) l V vs bs i aj UA' UC' V2 ((HT0.out.weak (P' := (fun b => (((b ≠ g9 ∧ b ≠ g11) ∧ b ≠ V0.heap.size) ∧ b ≠ V1.heap.size))) fun b hb hp => ⟨⟨hp, by have := HZA.out; omega⟩, by have := HZB.out; omega⟩).up HV.out) (HRP0.out.sub (P' := (fun b => (((b ≠ g9 ∧ b ≠ g11) ∧ b ≠ V0.heap.size) ∧ b ≠ V1.heap.size))) HV.out fun b hb hp => ⟨⟨hp, by have := HZA.out; omega⟩, by have := HZB.out; omega⟩) HRL.out (by omega) (Nat.le_trans HOKS.out.1 (by decide)) (fun b hb => by have h0 := HV.out.size; exact ⟨⟨⟨by have := HG9L.out; omega, by have := HG11L.out; omega⟩, by have := HLTA.out; omega⟩, by have := HLTB.out; omega⟩) HFT.out (fun w' hs => UpdsM.stay HUM.out (Below.then HBW.out HV.out HBW.out.size) (fun b hb => ⟨⟨⟨by omega, by omega⟩, by have := HZA.out; have := HBW.out.size; omega⟩, by have := HZB.out; have := HBW.out.size; omega⟩) hs)).mono ?_
          rintro e V3 ⟨m', l', rv, V', vs', bs', rfl, hst', hrs', hrl', hb'⟩
          obtain ⟨b', rfl⟩ := hst'.form
          obtain ⟨n1', VA', VC', n2', BA', BC', rfl⟩ := hrs'.shape
          have HT := Lib.hid hst'
          have HRP := Lib.hid hrs'
          have HRL' := Lib.hid hrl'
          have HGA := Lib.hid (HGA.out.up hb')
          have HLTA := Lib.hid (Nat.lt_of_lt_of_le HLTA.out hb'.size)
          have HGB := Lib.hid (HGB.out.up hb')
          have HLTB := Lib.hid (Nat.lt_of_lt_of_le HLTB.out hb'.size)
          have HV := Lib.hid (Below.then HV.out hb' HV.out.size)
          clear hst' hrs' hrl' hb'
          go_wp2_with fail
          refine hK.out _ _ (HSS.out V3 HV.out) (fun hHeld => ?_)
          clear hK K
          try simp only [Act.put]
          try simp only [List.setIfInBounds_toArray]
          try simp only [List.set_cons_succ]
          try simp only [List.set_cons_zero]
          refine takeOp (i := 7) (v := ?_) (some 58) rfl rfl (by kernel_rfl) (by kernel_rfl) (by kernel_rfl) (fun _ _ _ h => h) (Or.inl ⟨by rfl, ?_⟩) (by assumption) ?_
          rotate_left 1
          · (intro w0 hSw; (try dsimp only at hSw); go_simp; try (with_reducible rfl))
          try simp only [Act.put]
          try simp only [List.setIfInBounds_toArray]
          try simp only [List.set_cons_succ]
          try simp only [List.set_cons_zero]
          refine takeOp (i := 8) (v := ?_) (some 66) rfl rfl (by kernel_rfl) (by kernel_rfl) (by kernel_rfl) (fun _ _ _ h => h) (Or.inl ⟨by rfl, ?_⟩) (by assumption) ?_
          rotate_left 1
          · (intro w0 hSw; (try dsimp only at hSw); go_simp; try (with_reducible rfl))
          try simp only [Act.put]
          try simp only [List.setIfInBounds_toArray]
          try simp only [List.set_cons_succ]
          try simp only [List.set_cons_zero]
          refine takeOp (i := 9) (v := ?_) (some 67) rfl rfl (by kernel_rfl) (by kernel_rfl) (by kernel_rfl) (fun _ _ _ h => h) (Or.inl ⟨by rfl, ?_⟩) (by assumption) ?_
          rotate_left 1
          · (intro w0 hSw; (try dsimp only at hSw); go_simp; try (with_reducible rfl))
          try simp only [Act.put]
          try simp only [List.setIfInBounds_toArray]
          try simp only [List.set_cons_succ]
          try simp only [List.set_cons_zero]
          refine takeOp (i := 10) (v := ?_) (some 68) rfl rfl (by kernel_rfl) (by kernel_rfl) (by kernel_rfl) (fun _ _ _ h => h) (Or.inl ⟨by rfl, ?_⟩) (by assumption) ?_
          rotate_left 1
          · (intro w0 hSw; (try dsimp only at hSw); go_simp; try (with_reducible rfl))
          try simp only [Act.put]
          try simp only [List.setIfInBounds_toArray]
          try simp only [List.set_cons_succ]
          try simp only [List.set_cons_zero]
          refine wpAnyH_ready (rs := [13]) (by kernel_rfl) (by simp) ?_
          refine (AllReadyH.cons rfl (fun K hK => ?_) AllReadyH.nil)
          have m0 : V3.cell? ⟨V0.heap.size, 0, none⟩ = some (.map none) := HGA.out.cell 0
          have m1 : V3.cell? ⟨V0.heap.size, 1, none⟩ = some (.int .i64 0) := HGA.out.cell 1
          have m2 := HGA.out.frozen 0
          have m3 := HGA.out.frozen 1
          have m4 := HGA.out.lt
          go_simp
          obtain ⟨V4, hV⟩ : ∃ V', V' = (V3.setCell ⟨V0.heap.size, 0, none⟩ (.map (some b'))).setCell ⟨V0.heap.size, 1, none⟩ (.int .i64 l') := ⟨_, rfl⟩
          rw [← hV]
          have HGA : Hid (Row V4 V0.heap.size 31 [(.map (some b')), (.int .i64 l')]) := by show Row _ _ _ _; rw [hV]; exact HGA.out.set2 _ _
          have HGB : Hid (Row V4 V1.heap.size 66 [.slice none 0 0, .slice none 0 0]) := by show Row _ _ _ _; rw [hV]; exact (HGB.out.far (fun e => HNE.out e.symm) _).far (fun e => HNE.out e.symm) _
          have HS : Hid (Stay (fun b => (((b ≠ g9 ∧ b ≠ g11) ∧ b ≠ V0.heap.size) ∧ b ≠ V1.heap.size)) V3 V4) := by show Stay _ _ _; rw [hV]; exact (Stay.set (fun h => h.1.2 rfl) _ _).trans (Stay.set (fun h => h.1.2 rfl) _ _)
          have HT := Lib.hid (HT.out.keep HS.out)
          have HRP := Lib.hid (HRP.out.keep HS.out)
          have HV : Hid (Below wk.heap.size wk V4) := by show Below _ _ _; rw [hV]; exact (HV.out.setCell HZA.out _).setCell HZA.out _
          clear m0 m1 m2 m3 m4 hV HS
          refine hK.out _ _ (HSS.out V4 HV.out) (fun hHeld => ?_)
          clear hK K
          try simp only [Act.put]
          try simp only [List.setIfInBounds_toArray]
          try simp only [List.set_cons_succ]
          try simp only [List.set_cons_zero]
          refine wpAnyH_ready (rs := [14]) (by kernel_rfl) (by simp) ?_
          refine (AllReadyH.cons rfl (fun K hK => ?_) AllReadyH.nil)
          have m0 : V4.cell? ⟨V1.heap.size, 0, none⟩ = some (.slice none 0 0) := HGB.out.cell 0
          have m1 : V4.cell? ⟨V1.heap.size, 1, none⟩ = some (.slice none 0 0) := HGB.out.cell 1
          have m2 := HGB.out.frozen 0
          have m3 := HGB.out.frozen 1
          have m4 := HGB.out.lt
          go_simp
          obtain ⟨V5, hV⟩ : ∃ V', V' = (V4.setCell ⟨V1.heap.size, 0, none⟩ (.slice VA' n1' VC')).setCell ⟨V1.heap.size, 1, none⟩ (.slice BA' n2' BC') := ⟨_, rfl⟩
          rw [← hV]
          have HGB : Hid (Row V5 V1.heap.size 66 [(.slice VA' n1' VC'), (.slice BA' n2' BC')]) := by show Row _ _ _ _; rw [hV]; exact HGB.out.set2 _ _
          have HGA : Hid (Row V5 V0.heap.size 31 [.map (some b'), .int .i64 l']) := by show Row _ _ _ _; rw [hV]; exact (HGA.out.far (fun e => HNE.out e) _).far (fun e => HNE.out e) _
          have HS : Hid (Stay (fun b => (((b ≠ g9 ∧ b ≠ g11) ∧ b ≠ V0.heap.size) ∧ b ≠ V1.heap.size)) V4 V5) := by show Stay _ _ _; rw [hV]; exact (Stay.set (fun h => h.2 rfl) _ _).trans (Stay.set (fun h => h.2 rfl) _ _)
          have HT := Lib.hid (HT.out.keep HS.out)
          have HRP := Lib.hid (HRP.out.keep HS.out)
          have HV : Hid (Below wk.heap.size wk V5) := by show Below _ _ _; rw [hV]; exact (HV.out.setCell HZB.out _).setCell HZB.out _
          clear m0 m1 m2 m3 m4 hV HS
          refine hK.out _ _ (HSS.out V5 HV.out) (fun hHeld => ?_)
          clear hK K
          try simp only [Act.put]
          try simp only [List.setIfInBounds_toArray]
          try simp only [List.set_cons_succ]
          try simp only [List.set_cons_zero]
          refine takeOp (i := 15) (v := ?_) (some 15) rfl rfl (by kernel_rfl) (by kernel_rfl) (by kernel_rfl) (fun _ _ _ h => h) (Or.inl ⟨by rfl, ?_⟩) (by assumption) ?_
          rotate_left 1
          · (intro w0 hSw; (try dsimp only at hSw); go_simp; try (with_reducible rfl))
          try simp only [Act.put]
          try simp only [List.setIfInBounds_toArray]
          try simp only [List.set_cons_succ]
          try simp only [List.set_cons_zero]
          refine wpAnyH_done (by kernel_rfl) ?_ _
          go_wp2_with fail
          go_meet
          case rel => exact ⟨V0.heap.size, V1.heap.size, b', l', V', VA', n1', VC', BA', n2', BC', vs', bs', rfl, rfl, rfl, HZA.out, HZB.out, HNE.out, HGA.out, HGB.out, HT.out.weak (fun b _ hp => hp.1.1), HRP.out.weak (fun b hp => hp.1.1), HRL'.out, HV.out⟩
      · go_simp
        obtain ⟨V1, hV⟩ : ∃ V', V' = V0.alloc (.cells #[.slice none 0 0, .slice none 0 0] 66) := ⟨_, rfl⟩
        rw [← hV]
        have hx : Ext V0 V1 := by rw [hV]; exact (Ext.refl V0).alloc _
        have HGN : Hid (Row V1 V0.heap.size 66 [.slice none 0 0, .slice none 0 0]) := by show Row _ _ _ _; rw [hV]; exact Row.new V0 66 _
        have HZB := Lib.hid HV.out.size
        have HGB := HGN
        have HLTB : Hid (V0.heap.size < V1.heap.size) := HGN.out.lt
        have HV := Lib.hid (Below.then HV.out hx.below HV.out.size)
        clear hx hV HGN
        refine hK.out _ _ (HSS.out V1 HV.out) (fun hHeld => ?_)
        clear hK K
        try simp only [Act.put]
        try simp only [List.setIfInBounds_toArray]
        try simp only [List.set_cons_succ]
        try simp only [List.set_cons_zero]
        refine wpAnyH_ready (rs := [6, 11]) (by kernel_rfl) (by simp) ?_
        refine (AllReadyH.cons rfl (fun K hK => ?_) (AllReadyH.cons rfl (fun K hK => ?_) AllReadyH.nil))
        · go_simp
          refine (l16do_any (fun b => ((b ≠ g9 ∧ b ≠ g11) ∧ b ≠ V0.heap.size)) X (.map (some b)) (.agg #[.slice VA n1 VC, .slice BA n2 BC]) l V vs bs i aj UA' UC' V1 ((HT0.out.weak (P' := (fun b => ((b ≠ g9 ∧ b ≠ g11) ∧ b ≠ V0.heap.size))) fun b hb hp => ⟨hp, by have := HZB.out; omega⟩).up HV.out) (HRP0.out.sub (P' := (fun b => ((b ≠ g9 ∧ b ≠ g11) ∧ b ≠ V0.heap.size))) HV.out fun b hb hp => ⟨hp, by have := HZB.out; omega⟩) HRL.out (by omega) (Nat.le_trans HOKS.out.1 (by decide)) (fun b hb => by have h0 := HV.out.size; exact ⟨⟨by have := HG9L.out; omega, by have := HG11L.out; omega⟩, by have := HLTB.out; omega⟩) HFT.out (fun w' hs => UpdsM.stay HUM.out (Below.then HBW.out HV.out HBW.out.size) (fun b hb => ⟨⟨by omega, by omega⟩, by have := HZB.out; have := HBW.out.size; omega⟩) hs)).mono ?_
          rintro e V2 ⟨m', l', rv, V', vs', bs', rfl, hst', hrs', hrl', hb'⟩
          obtain ⟨b', rfl⟩ := hst'.form
          obtain ⟨n1', VA', VC', n2', BA', BC', rfl⟩ := hrs'.shape
          have HT := Lib.hid hst'
          have HRP := Lib.hid hrs'
          have HRL' := Lib.hid hrl'
          have HGB := Lib.hid (HGB.out.up hb')
          have HLTB := Lib.hid (Nat.lt_of_lt_of_le HLTB.out hb'.size)
          have HV := Lib.hid (Below.then HV.out hb' HV.out.size)
          clear hst' hrs' hrl' hb'
          go_wp2_with fail
          refine hK.out _ _ (HSS.out V2 HV.out) (fun hHeld => ?_)
          clear hK K
          try simp only [Act.put]
          try simp only [List.setIfInBounds_toArray]
          try simp only [List.set_cons_succ]
          try simp only [List.set_cons_zero]
          refine takeOp (i := 7) (v := ?_) (some 58) rfl rfl (by kernel_rfl) (by kernel_rfl) (by kernel_rfl) (fun _ _ _ h => h) (Or.inl ⟨by rfl, ?_⟩) (by assumption) ?_
          rotate_left 1
          · (intro w0 hSw; (try dsimp only at hSw); go_simp; try (with_reducible rfl))
          try simp only [Act.put]
          try simp only [List.setIfInBounds_toArray]
          try simp only [List.set_cons_succ]
          try simp only [List.set_cons_zero]
          refine takeOp (i := 8) (v := ?_) (some 66) rfl rfl (by kernel_rfl) (by kernel_rfl) (by kernel_rfl) (fun _ _ _ h => h) (Or.inl ⟨by rfl, ?_⟩) (by assumption) ?_
          rotate_left 1
          · (intro w0 hSw; (try dsimp only at hSw); go_simp; try (with_reducible rfl))
          try simp only [Act.put]
          try simp only [List.setIfInBounds_toArray]
          try simp only [List.set_cons_succ]
          try simp only [List.set_cons_zero]
          refine takeOp (i := 9) (v := ?_) (some 67) rfl rfl (by kernel_rfl) (by kernel_rfl) (by kernel_rfl) (fun _ _ _ h => h) (Or.inl ⟨by rfl, ?_⟩) (by assumption) ?_
          rotate_left 1
          · (intro w0 hSw; (try dsimp only at hSw); go_simp; try (with_reducible rfl))
          try simp only [Act.put]
          try simp only [List.setIfInBounds_toArray]
          try simp only [List.set_cons_succ]
          try simp only [List.set_cons_zero]
          refine takeOp (i := 10) (v := ?_) (some 68) rfl rfl (by kernel_rfl) (by kernel_rfl) (by kernel_rfl) (fun _ _ _ h => h) (Or.inl ⟨by rfl, ?_⟩) (by assumption) ?_
          rotate_left 1
          · (intro w0 hSw; (try dsimp only at hSw); go_simp; try (with_reducible rfl))
          try simp only [Act.put]
          try simp only [List.setIfInBounds_toArray]
          try simp only [List.set_cons_succ]
          try simp only [List.set_cons_zero]
          refine wpAnyH_ready (rs := [11]) (by kernel_rfl) (by simp) ?_
          refine (AllReadyH.cons rfl (fun K hK => ?_) AllReadyH.nil)
          go_simp
          obtain ⟨V3, hV⟩ : ∃ V', V' = V2.alloc (.cells #[.map none, .int .i64 0] 31) := ⟨_, rfl⟩
          rw [← hV]
          have hx : Ext V2 V3 := by rw [hV]; exact (Ext.refl V2).alloc _
          have HGN : Hid (Row V3 V2.heap.size 31 [.map none, .int .i64 0]) := by show Row _ _ _ _; rw [hV]; exact Row.new V2 31 _
          have HZA := Lib.hid HV.out.size
          have HGB := Lib.hid (HGB.out.up hx.below)
          have HT := Lib.hid ((HT.out.but (Nat.le_refl _)).up hx.below)
          have HRP := Lib.hid (HRP.out.sub (P' := (fun b => (((b ≠ g9 ∧ b ≠ g11) ∧ b ≠ V0.heap.size) ∧ b ≠ V2.heap.size))) hx.below fun b hb hp => ⟨hp, by omega⟩)
          have HGA := HGN
          have HNE : Hid (V2.heap.size ≠ V0.heap.size) := by have := HLTB.out; show _ ≠ _; omega
          have HLTA : Hid (V2.heap.size < V3.heap.size) := HGN.out.lt
          have HLTB := Lib.hid (Nat.lt_of_lt_of_le HLTB.out hx.size)
          have HV := Lib.hid (Below.then HV.out hx.below HV.out.size)
          clear hx hV HGN
          refine hK.out _ _ (HSS.out V3 HV.out) (fun hHeld => ?_)
          clear hK K
          try simp only [Act.put]
          try simp only [List.setIfInBounds_toArray]
          try simp only [List.set_cons_succ]
          try simp only [List.set_cons_zero]
          refine wpAnyH_ready (rs := [13]) (by kernel_rfl) (by simp) ?_
          refine (AllReadyH.cons rfl (fun K hK => ?_) AllReadyH.nil)
          have m0 : V3.cell? ⟨V2.heap.size, 0, none⟩ = some (.map none) := HGA.out.cell 0
          have m1 : V3.cell? ⟨V2.heap.size, 1, none⟩ = some (.int .i64 0) := HGA.out.cell 1
          have m2 := HGA.out.frozen 0
          have m3 := HGA.out.frozen 1
          have m4 := HGA.out.lt
          go_simp
          obtain ⟨V4, hV⟩ : ∃ V', V' = (V3.setCell ⟨V2.heap.size, 0, none⟩ (.map (some b'))).setCell ⟨V2.heap.size, 1, none⟩ (.int .i64 l') := ⟨_, rfl⟩
          rw [← hV]
          have HGA : Hid (Row V4 V2.heap.size 31 [(.map (some b')), (.int .i64 l')]) := by show Row _ _ _ _; rw [hV]; exact HGA.out.set2 _ _
          have HGB : Hid (Row V4 V0.heap.size 66 [.slice none 0 0, .slice none 0 0]) := by show Row _ _ _ _; rw [hV]; exact (HGB.out.far (fun e => HNE.out e.symm) _).far (fun e => HNE.out e.symm) _
          have HS : Hid (Stay (fun b => (((b ≠ g9 ∧ b ≠ g11) ∧ b ≠ V0.heap.size) ∧ b ≠ V2.heap.size)) V3 V4) := by show Stay _ _ _; rw [hV]; exact (Stay.set (fun h => h.2 rfl) _ _).trans (Stay.set (fun h => h.2 rfl) _ _)
          have HT := Lib.hid (HT.out.keep HS.out)
          have HRP := Lib.hid (HRP.out.keep HS.out)
          have HV : Hid (Below wk.heap.size wk V4) := by show Below _ _ _; rw [hV]; exact (HV.out.setCell HZA.out _).setCell HZA.out _
          clear m0 m1 m2 m3 m4 hV HS
          refine hK.out _ _ (HSS.out V4 HV.out) (fun hHeld => ?_)
          clear hK K
          try simp only [Act.put]
          try simp only [List.setIfInBounds_toArray]
          try simp only [List.set_cons_succ]
          try simp only [List.set_cons_zero]
          refine wpAnyH_ready (rs := [14]) (by kernel_rfl) (by simp) ?_
          refine (AllReadyH.cons rfl (fun K hK => ?_) AllReadyH.nil)
          have m0 : V4.cell? ⟨V0.heap.size, 0, none⟩ = some (.slice none 0 0) := HGB.out.cell 0
          have m1 : V4.cell? ⟨V0.heap.size, 1, none⟩ = some (.slice none 0 0) := HGB.out.cell 1
          have m2 := HGB.out.frozen 0
          have m3 := HGB.out.frozen 1
          have m4 := HGB.out.lt
          go_simp
          obtain ⟨V5, hV⟩ : ∃ V', V' = (V4.setCell ⟨V0.heap.size, 0, none⟩ (.slice VA' n1' VC')).setCell ⟨V0.heap.size, 1, none⟩ (.slice BA' n2' BC') := ⟨_, rfl⟩
          rw [← hV]
          have HGB : Hid (Row V5 V0.heap.size 66 [(.slice VA' n1' VC'), (.slice BA' n2' BC')]) := by show Row _ _ _ _; rw [hV]; exact HGB.out.set2 _ _
          have HGA : Hid (Row V5 V2.heap.size 31 [.map (some b'), .int .i64 l']) := by show Row _ _ _ _; rw [hV]; exact (HGA.out.far (fun e => HNE.out e) _).far (fun e => HNE.out e) _
          have HS : Hid (Stay (fun b => (((b ≠ g9 ∧ b ≠ g11) ∧ b ≠ V0.heap.size) ∧ b ≠ V2.heap.size)) V4 V5) := by show Stay _ _ _; rw [hV]; exact (Stay.set (fun h => h.1.2 rfl) _ _).trans (Stay.set (fun h => h.1.2 rfl) _ _)
          have HT := Lib.hid (HT.out.keep HS.out)
          have HRP := Lib.hid (HRP.out.keep HS.out)
          have HV : Hid (Below wk.heap.size wk V5) := by show Below _ _ _; rw [hV]; exact (HV.out.setCell HZB.out _).setCell HZB.out _
          clear m0 m1 m2 m3 m4 hV HS
          refine hK.out _ _ (HSS.out V5 HV.out) (fun hHeld => ?_)
          clear hK K
          try simp only [Act.put]
          try simp only [List.setIfInBounds_toArray]
          try simp only [List.set_cons_succ]
          try simp only [List.set_cons_zero]
          refine takeOp (i := 15) (v := ?_) (some 15) rfl rfl (by kernel_rfl) (by kernel_rfl) (by kernel_rfl) (fun _ _ _ h => h) (Or.inl ⟨by rfl, ?_⟩) (by assumption) ?_
          rotate_left 1
          · (intro w0 hSw; (try dsimp only at hSw); go_simp; try (with_reducible rfl))
          try simp only [Act.put]
          try simp only [List.setIfInBounds_toArray]
          try simp only [List.set_cons_succ]
          try simp only [List.set_cons_zero]
          refine wpAnyH_done (by kernel_rfl) ?_ _
          go_wp2_with fail
          go_meet
          case rel => exact ⟨V2.heap.size, V0.heap.size, b', l', V', VA', n1', VC', BA', n2', BC', vs', bs', rfl, rfl, rfl, HZA.out, HZB.out, HNE.out, HGA.out, HGB.out, HT.out.weak (fun b _ hp => hp.1.1), HRP.out.weak (fun b hp => hp.1.1), HRL'.out, HV.out⟩
        · go_simp
          obtain ⟨V2, hV⟩ : ∃ V', V' = V1.alloc (.cells #[.map none, .int .i64 0] 31) := ⟨_, rfl⟩
          rw [← hV]
          have hx : Ext V1 V2 := by rw [hV]; exact (Ext.refl V1).alloc _
          have HGN : Hid (Row V2 V1.heap.size 31 [.map none, .int .i64 0]) := by show Row _ _ _ _; rw [hV]; exact Row.new V1 31 _
          have HZA := Lib.hid HV.out.size
          have HGB := Lib.hid (HGB.out.up hx.below)
          have HGA := HGN
          have HNE : Hid (V1.heap.size ≠ V0.heap.size) := by have := HLTB.out; show _ ≠ _; omega
          have HLTA : Hid (V1.heap.size < V2.heap.size) := HGN.out.lt
          have HLTB := Lib.hid (Nat.lt_of_lt_of_le HLTB.out hx.size)
          have HV := Lib.hid (Below.then HV.out hx.below HV.out.size)
          clear hx hV HGN
          refine hK.out _ _ (HSS.out V2 HV.out) (fun hHeld => ?_)
          clear hK K
          try simp only [Act.put]
          try simp only [List.setIfInBounds_toArray]
          try simp only [List.set_cons_succ]
          try simp only [List.set_cons_zero]
          refine wpAnyH_ready (rs := [6]) (by kernel_rfl) (by simp) ?_
          refine (AllReadyH.cons rfl (fun K hK => ?_) AllReadyH.nil)
          go_simp
          refine (l16do_any (fun b => (((b ≠ g9 ∧ b ≠ g11) ∧ b ≠ V0.heap.size) ∧ b ≠ V1.heap.size)) X (.map (some b)) (.agg #[.slice VA n1 VC, .slice BA n2 BC]) l V vs bs i aj UA' UC' V2 ((HT0.out.weak (P' := (fun b => (((b ≠ g9 ∧ b ≠ g11) ∧ b ≠ V0.heap.size) ∧ b ≠ V1.heap.size))) fun b hb hp => ⟨⟨hp, by have := HZB.out; omega⟩, by have := HZA.out; omega⟩).up HV.out) (HRP0.out.sub (P' := (fun b => (((b ≠ g9 ∧ b ≠ g11) ∧ b ≠ V0.heap.size) ∧ b ≠ V1.heap.size))) HV.out fun b hb hp => ⟨⟨hp, by have := HZB.out; omega⟩, by have := HZA.out; omega⟩) HRL.out (by omega) (Nat.le_trans HOKS.out.1 (by decide)) (fun b hb => by have h0 := HV.out.size; exact ⟨⟨⟨by have := HG9L.out; omega, by have := HG11L.out; omega⟩, by have := HLTB.out; omega⟩, by have := HLTA.out; omega⟩) HFT.out (fun w' hs => UpdsM.stay HUM.out (Below.then HBW.out HV.out HBW.out.size) (fun b hb => ⟨⟨⟨by omega, by omega⟩, by have := HZB.out; have := HBW.out.size; omega⟩, by have := HZA.out; have := HBW.out.size; omega⟩) hs)).mono ?_
          rintro e V3 ⟨m', l', rv, V', vs', bs', rfl, hst', hrs', hrl', hb'⟩
          obtain ⟨b', rfl⟩ := hst'.form
          obtain ⟨n1', VA', VC', n2', BA', BC', rfl⟩ := hrs'.shape
          have HT := Lib.hid hst'
          have HRP := Lib.hid hrs'
          have HRL' := Lib.hid hrl'
          have HGA := Lib.hid (HGA.out.up hb')
          have HLTA := Lib.hid (Nat.lt_of_lt_of_le HLTA.out hb'.size)
          have HGB := Lib.hid (HGB.out.up hb')
          have HLTB := Lib.hid (Nat.lt_of_lt_of_le HLTB.out hb'.size)
          have HV := Lib.hid (Below.then HV.out hb' HV.out.size)
          clear hst' hrs' hrl' hb'
          go_wp2_with fail
          refine hK.out _ _ (HSS.out V3 HV.out) (fun hHeld => ?_)
          clear hK K
          try simp only [Act.put]
          try simp only [List.setIfInBounds_toArray]
          try simp only [List.set_cons_succ]
          try simp only [List.set_cons_zero]
          refine takeOp (i := 7) (v := ?_) (some 58) rfl rfl (by kernel_rfl) (by kernel_rfl) (by kernel_rfl) (fun _ _ _ h => h) (Or.inl ⟨by rfl, ?_⟩) (by assumption) ?_
          rotate_left 1
          · (intro w0 hSw; (try dsimp only at hSw); go_simp; try (with_reducible rfl))
          try simp only [Act.put]
          try simp only [List.setIfInBounds_toArray]
          try simp only [List.set_cons_succ]
          try simp only [List.set_cons_zero]
          refine takeOp (i := 8) (v := ?_) (some 66) rfl rfl (by kernel_rfl) (by kernel_rfl) (by kernel_rfl) (fun _ _ _ h => h) (Or.inl ⟨by rfl, ?_⟩) (by assumption) ?_
          rotate_left 1
          · (intro w0 hSw; (try dsimp only at hSw); go_simp; try (with_reducible rfl))
          try simp only [Act.put]
          try simp only [List.setIfInBounds_toArray]
          try simp only [List.set_cons_succ]
          try simp only [List.set_cons_zero]
          refine takeOp (i := 9) (v := ?_) (some 67) rfl rfl (by kernel_rfl) (by kernel_rfl) (by kernel_rfl) (fun _ _ _ h => h) (Or.inl ⟨by rfl, ?_⟩) (by assumption) ?_
          rotate_left 1
          · (intro w0 hSw; (try dsimp only at hSw); go_simp; try (with_reducible rfl))
          try simp only [Act.put]
          try simp only [List.setIfInBounds_toArray]
          try simp only [List.set_cons_succ]
          try simp only [List.set_cons_zero]
          refine takeOp (i := 10) (v := ?_) (some 68) rfl rfl (by kernel_rfl) (by kernel_rfl) (by kernel_rfl) (fun _ _ _ h => h) (Or.inl ⟨by rfl, ?_⟩) (by assumption) ?_
          rotate_left 1
          · (intro w0 hSw; (try dsimp only at hSw); go_simp; try (with_reducible rfl))
          try simp only [Act.put]
          try simp only [List.setIfInBounds_toArray]
          try simp only [List.set_cons_succ]
          try simp only [List.set_cons_zero]
          refine wpAnyH_ready (rs := [13]) (by kernel_rfl) (by simp) ?_
          refine (AllReadyH.cons rfl (fun K hK => ?_) AllReadyH.nil)
          have m0 : V3.cell? ⟨V1.heap.size, 0, none⟩ = some (.map none) := HGA.out.cell 0
          have m1 : V3.cell? ⟨V1.heap.size, 1, none⟩ = some (.int .i64 0) := HGA.out.cell 1
          have m2 := HGA.out.frozen 0
          have m3 := HGA.out.frozen 1
          have m4 := HGA.out.lt
          go_simp
          obtain ⟨V4, hV⟩ : ∃ V', V' = (V3.setCell ⟨V1.heap.size, 0, none⟩ (.map (some b'))).setCell ⟨V1.heap.size, 1, none⟩ (.int .i64 l') := ⟨_, rfl⟩
          rw [← hV]
          have HGA : Hid (Row V4 V1.heap.size 31 [(.map (some b')), (.int .i64 l')]) := by show Row _ _ _ _; rw [hV]; exact HGA.out.set2 _ _
          have HGB : Hid (Row V4 V0.heap.size 66 [.slice none 0 0, .slice none 0 0]) := by show Row _ _ _ _; rw [hV]; exact (HGB.out.far (fun e => HNE.out e.symm) _).far (fun e => HNE.out e.symm) _
          have HS : Hid (Stay (fun b => (((b ≠ g9 ∧ b ≠ g11) ∧ b ≠ V0.heap.size) ∧ b ≠ V1.heap.size)) V3 V4) := by show Stay _ _ _; rw [hV]; exact (Stay.set (fun h => h.2 rfl) _ _).trans (Stay.set (fun h => h.2 rfl) _ _)
          have HT := Lib.hid (HT.out.keep HS.out)
          have HRP := Lib.hid (HRP.out.keep HS.out)
          have HV : Hid (Below wk.heap.size wk V4) := by show Below _ _ _; rw [hV]; exact (HV.out.setCell HZA.out _).setCell HZA.out _
          clear m0 m1 m2 m3 m4 hV HS
          refine hK.out _ _ (HSS.out V4 HV.out) (fun hHeld => ?_)
          clear hK K
          try simp only [Act.put]
          try simp only [List.setIfInBounds_toArray]
          try simp only [List.set_cons_succ]
          try simp only [List.set_cons_zero]
          refine wpAnyH_ready (rs := [14]) (by kernel_rfl) (by simp) ?_
          refine (AllReadyH.cons rfl (fun K hK => ?_) AllReadyH.nil)
          have m0 : V4.cell? ⟨V0.heap.size, 0, none⟩ = some (.slice none 0 0) := HGB.out.cell 0
          have m1 : V4.cell? ⟨V0.heap.size, 1, none⟩ = some (.slice none 0 0) := HGB.out.cell 1
          have m2 := HGB.out.frozen 0
          have m3 := HGB.out.frozen 1
          have m4 := HGB.out.lt
          go_simp
          obtain ⟨V5, hV⟩ : ∃ V', V' = (V4.setCell ⟨V0.heap.size, 0, none⟩ (.slice VA' n1' VC')).setCell ⟨V0.heap.size, 1, none⟩ (.slice BA' n2' BC') := ⟨_, rfl⟩
          rw [← hV]
          have HGB : Hid (Row V5 V0.heap.size 66 [(.slice VA' n1' VC'), (.slice BA' n2' BC')]) := by show Row _ _ _ _; rw [hV]; exact HGB.out.set2 _ _
          have HGA : Hid (Row V5 V1.heap.size 31 [.map (some b'), .int .i64 l']) := by show Row _ _ _ _; rw [hV]; exact (HGA.out.far (fun e => HNE.out e) _).far (fun e => HNE.out e) _
          have HS : Hid (Stay (fun b => (((b ≠ g9 ∧ b ≠ g11) ∧ b ≠ V0.heap.size) ∧ b ≠ V1.heap.size)) V4 V5) := by show Stay _ _ _; rw [hV]; exact (Stay.set (fun h => h.1.2 rfl) _ _).trans (Stay.set (fun h => h.1.2 rfl) _ _)
          have HT := Lib.hid (HT.out.keep HS.out)
          have HRP := Lib.hid (HRP.out.keep HS.out)
          have HV : Hid (Below wk.heap.size wk V5) := by show Below _ _ _; rw [hV]; exact (HV.out.setCell HZB.out _).setCell HZB.out _
          clear m0 m1 m2 m3 m4 hV HS
          refine hK.out _ _ (HSS.out V5 HV.out) (fun hHeld => ?_)
          clear hK K
          try simp only [Act.put]
          try simp only [List.setIfInBounds_toArray]
          try simp only [List.set_cons_succ]
          try simp only [List.set_cons_zero]
          refine takeOp (i := 15) (v := ?_) (some 15) rfl rfl (by kernel_rfl) (by kernel_rfl) (by kernel_rfl) (fun _ _ _ h => h) (Or.inl ⟨by rfl, ?_⟩) (by assumption) ?_
          rotate_left 1
          · (intro w0 hSw; (try dsimp only at hSw); go_simp; try (with_reducible rfl))
          try simp only [Act.put]
          try simp only [List.setIfInBounds_toArray]
          try simp only [List.set_cons_succ]
          try simp only [List.set_cons_zero]
          refine wpAnyH_done (by kernel_rfl) ?_ _
          go_wp2_with fail
          go_meet
          case rel => exact ⟨V1.heap.size, V0.heap.size, b', l', V', VA', n1', VC', BA', n2', BC', vs', bs', rfl, rfl, rfl, HZA.out, HZB.out, HNE.out, HGA.out, HGB.out, HT.out.weak (fun b _ hp => hp.1.1), HRP.out.weak (fun b hp => hp.1.1), HRL'.out, HV.out⟩
    case rest =>
    obtain ⟨gA, gB, b', l', V', VA', n1', VC', BA', n2', BC', vs', bs', rfl, rfl, rfl, hzA, hzB, hneAB, hrA, hrB, hst', hrs', hrl', hbc⟩ := hcut
    have HRA := Lib.hid hrA
    have HRB := Lib.hid hrB
    have HSTN := Lib.hid hst'
    have HRSN := Lib.hid hrs'
    have HRLN := Lib.hid hrl'
    have HBC := Lib.hid hbc
    have HA1 := Lib.hid (HA.out.up hbc)
    have HC1 := Lib.hid (HC.out.up hbc)
    have HE1 := Lib.hid (HE.out.up hbc)
    have HPN : Hid (∀ W : World, wc.heap.size ≤ W.heap.size → ∀ b, W.heap.size ≤ b → b ≠ g9 ∧ b ≠ g11) := fun W h b hb => by
      have h1 := HG9L.out
      have h2 := HG11L.out
      have h3 := HBC.out.size
      exact ⟨by omega, by omega⟩
    have HSM1 := Lib.hid (l16same_any (fun b => b ≠ g9 ∧ b ≠ g11) X _ _ (.map (some bd)) l' _ _ _ (i + 1) wc HSTN.out HRSN.out (HD0.out.up hbc) HRLN.out (by have := HI60.out; omega) (Nat.le_trans HOKS.out.1 (by decide)) HOKS.out.2.2 (HPN.out wc (Nat.le_refl _)))
    have p0 : wc.cell? ⟨gA, 0, none⟩ = some (.map (some b')) := HRA.out.cell 0
    have p1 : wc.cell? ⟨gA, 1, none⟩ = some (.int .i64 l') := HRA.out.cell 1
    have p2 := HRA.out.lt
    have p3 : wc.cell? ⟨gB, 0, none⟩ = some (.slice VA' n1' VC') := HRB.out.cell 0
    have p4 : wc.cell? ⟨gB, 1, none⟩ = some (.slice BA' n2' BC') := HRB.out.cell 1
    have p5 := HRB.out.lt
    have p6 : wc.cell? ⟨g7, 0, none⟩ = some (.map (some bd)) := HE1.out.cell 0
    have p7 := HE1.out.lt
    clear hrA hrB hst' hrs' hrl' hbc HSS
    go_upto_region 16 with (fail)
    go_wp2_with fail
    clear p0 p1 p2 p3 p4 p5 p6 p7
    refine HSM1.out.mono ?_
    rintro e w13 ⟨rfl, hb13⟩
    have HB13 := Lib.hid (Below.then HBC.out hb13 HBC.out.size)
    have HA2 := Lib.hid (HA1.out.up hb13)
    have HC2 := Lib.hid (HC1.out.up hb13)
    have HE2 := Lib.hid (HE1.out.up hb13)
    have HRA2 := Lib.hid (HRA.out.up hb13)
    have HRB2 := Lib.hid (HRB.out.up hb13)
    have HSTN2 := Lib.hid (HSTN.out.up hb13)
    have HRSN2 := Lib.hid (HRSN.out.up hb13)
    have HSM2 := Lib.hid (l16same_any (fun b => b ≠ g9 ∧ b ≠ g11) X _ _ (.map (some bd)) l _ _ _ i w13 (HT0.out.up HB13.out) (HRP0.out.up HB13.out) (HD0.out.up HB13.out) HRL.out (by have := HI60.out; omega) (Nat.le_trans HOKS.out.1 (by decide)) HOKS.out.2.2 (HPN.out w13 hb13.size))
    have p0 : w13.cell? ⟨g9, 0, none⟩ = some (.map (some b)) := HA2.out.cell 0
    have p1 : w13.cell? ⟨g9, 1, none⟩ = some (.int .i64 l) := HA2.out.cell 1
    have p2 := HA2.out.lt
    have p3 : w13.cell? ⟨g11, 0, none⟩ = some (.slice VA n1 VC) := HC2.out.cell 0
    have p4 : w13.cell? ⟨g11, 1, none⟩ = some (.slice BA n2 BC) := HC2.out.cell 1
    have p5 := HC2.out.lt
    have p6 : w13.cell? ⟨g7, 0, none⟩ = some (.map (some bd)) := HE2.out.cell 0
    have p7 := HE2.out.lt
    clear hb13 HSM1
    go_wp2_with fail
    clear p0 p1 p2 p3 p4 p5 p6 p7
    refine HSM2.out.mono ?_
    rintro e w14 ⟨rfl, hb14⟩
    have HB14 := Lib.hid (Below.then HB13.out hb14 HB13.out.size)
    have HBW14 := Lib.hid (Below.then HBW.out HB14.out HBW.out.size)
    have HA3 := Lib.hid (HA2.out.up hb14)
    have HC3 := Lib.hid (HC2.out.up hb14)
    have HE3 := Lib.hid (HE2.out.up hb14)
    have HRA3 := Lib.hid (HRA2.out.up hb14)
    have HRB3 := Lib.hid (HRB2.out.up hb14)
    have HSTN3 := Lib.hid (HSTN2.out.up hb14)
    have HRSN3 := Lib.hid (HRSN2.out.up hb14)
    have HD3 := Lib.hid (HD0.out.up HB14.out)
    have HNE : Hid (g9 ≠ gA ∧ g9 ≠ gB ∧ g11 ≠ gA ∧ g11 ≠ gB ∧ g9 ≠ g11 ∧ g7 ≠ g9 ∧ g7 ≠ g11) := by
      have h1 := HG9L.out
      have h2 := HG11L.out
      exact ⟨by omega, by omega, by omega, by omega, by omega, by omega, by omega⟩
    clear hb14 HSM2
    have K0 : w14.drew.cell? ⟨gA, 0, none⟩ = some (.map (some b')) ∧ w14.drew.cell? ⟨gA, 1, none⟩ = some (.int .i64 l') ∧ w14.drew.cell? ⟨gB, 0, none⟩ = some (.slice VA' n1' VC') ∧ w14.drew.cell? ⟨gB, 1, none⟩ = some (.slice BA' n2' BC') := ⟨HRA3.out.cell 0, HRA3.out.cell 1, HRB3.out.cell 0, HRB3.out.cell 1⟩
    go_upto_region 18 with (fail)
    refine wp_region_held_drew (S := (fun w' => w'.cell? ⟨gA, 0, none⟩ = some (.map (some b')) ∧ w'.cell? ⟨gA, 1, none⟩ = some (.int .i64 l') ∧ w'.cell? ⟨gB, 0, none⟩ = some (.slice VA' n1' VC') ∧ w'.cell? ⟨gB, 1, none⟩ = some (.slice BA' n2' BC'))) (by kernel_rfl) K0 (fun hHeld => ?_)
    refine takeOp (i := 0) (v := ?_) (some 85) rfl rfl (by kernel_rfl) (by kernel_rfl) (by kernel_rfl) (fun _ _ _ h => h) (Or.inl ⟨by rfl, ?_⟩) (by assumption) ?_
    rotate_left 1
    · (intro w0 hSw; (try dsimp only at hSw); go_simp; try (with_reducible rfl))
    try simp only [Act.put]
    try simp only [List.setIfInBounds_toArray]
    try simp only [List.set_cons_succ]
    try simp only [List.set_cons_zero]
    refine takeOp (i := 1) (v := ?_) (some 86) rfl rfl (by kernel_rfl) (by kernel_rfl) (by kernel_rfl) (fun _ _ _ h => h) (Or.inl ⟨by rfl, ?_⟩) (by assumption) ?_
    rotate_left 1
    · (intro w0 hSw; (try dsimp only at hSw); go_simp; try (with_reducible rfl))
    try simp only [Act.put]
    try simp only [List.setIfInBounds_toArray]
    try simp only [List.set_cons_succ]
    try simp only [List.set_cons_zero]
    refine wpAnyH_ready (rs := [2]) (by kernel_rfl) (by simp) ?_
    refine AllReadyH.cons rfl (fun K hK => ?_) AllReadyH.nil
    have m0 : w14.cell? ⟨g9, 0, none⟩ = some (.map (some b)) := HA3.out.cell 0
    have m1 : w14.cell? ⟨g9, 1, none⟩ = some (.int .i64 l) := HA3.out.cell 1
    have m2 := HA3.out.frozen 0
    have m3 := HA3.out.frozen 1
    have m4 := HA3.out.lt
    go_simp
    obtain ⟨V6, hV6⟩ : ∃ V', V' = ((w14.setCell ⟨g9, 0, none⟩ (.map (some b'))).setCell ⟨g9, 1, none⟩ (.int .i64 l')).drew := ⟨_, rfl⟩
    rw [← hV6]
    have HA6 : Hid (Row V6 g9 31 [.map (some b'), .int .i64 l']) := by show Row _ _ _ _; rw [hV6]; exact HA3.out.set2 _ _
    have HC6 : Hid (Row V6 g11 66 [.slice VA n1 VC, .slice BA n2 BC]) := by show Row _ _ _ _; rw [hV6]; exact (HC3.out.far HNE.out.2.2.2.2.1.symm _).far HNE.out.2.2.2.2.1.symm _
    have HE6 : Hid (Row V6 g7 25 [.map (some bd)]) := by show Row _ _ _ _; rw [hV6]; exact (HE3.out.far HNE.out.2.2.2.2.2.1 _).far HNE.out.2.2.2.2.2.1 _
    have HS6 : Hid (Stay (fun b => b ≠ g9 ∧ b ≠ g11) w14 V6) := by show Stay _ _ _; rw [hV6]; exact ((Stay.set (fun h => h.1 rfl) _ _).trans (Stay.set (fun h => h.1 rfl) _ _)).drawn
    have HB6 : Hid (Below w.heap.size w V6) := by show Below _ _ _; rw [hV6]; exact ((HBW14.out.setCell hgw _).setCell hgw _).drew
    have K6 : V6.cell? ⟨gA, 0, none⟩ = some (.map (some b')) ∧ V6.cell? ⟨gA, 1, none⟩ = some (.int .i64 l') ∧ V6.cell? ⟨gB, 0, none⟩ = some (.slice VA' n1' VC') ∧ V6.cell? ⟨gB, 1, none⟩ = some (.slice BA' n2' BC') := by
      rw [hV6]
      exact ⟨far_cell HNE.out.1 (far_cell HNE.out.1 (HRA3.out.cell 0)), far_cell HNE.out.1 (far_cell HNE.out.1 (HRA3.out.cell 1)), far_cell HNE.out.2.1 (far_cell HNE.out.2.1 (HRB3.out.cell 0)), far_cell HNE.out.2.1 (far_cell HNE.out.2.1 (HRB3.out.cell 1))⟩
    clear m0 m1 m2 m3 m4 hV6
    refine hK.out _ _ K6 (fun hHeld => ?_)
    clear hK K
    try simp only [Act.put]
    try simp only [List.setIfInBounds_toArray]
    try simp only [List.set_cons_succ]
    try simp only [List.set_cons_zero]
    refine wpAnyH_ready (rs := [3]) (by kernel_rfl) (by simp) ?_
    refine AllReadyH.cons rfl (fun K hK => ?_) AllReadyH.nil
    have m0 : V6.cell? ⟨g11, 0, none⟩ = some (.slice VA n1 VC) := HC6.out.cell 0
    have m1 : V6.cell? ⟨g11, 1, none⟩ = some (.slice BA n2 BC) := HC6.out.cell 1
    have m2 := HC6.out.frozen 0
    have m3 := HC6.out.frozen 1
    have m4 := HC6.out.lt
    go_simp
    obtain ⟨V7, hV7⟩ : ∃ V', V' = (V6.setCell ⟨g11, 0, none⟩ (.slice VA' n1' VC')).setCell ⟨g11, 1, none⟩ (.slice BA' n2' BC') := ⟨_, rfl⟩
    rw [← hV7]
    have HC7 : Hid (Row V7 g11 66 [.slice VA' n1' VC', .slice BA' n2' BC']) := by show Row _ _ _ _; rw [hV7]; exact HC6.out.set2 _ _
    have HA7 : Hid (Row V7 g9 31 [.map (some b'), .int .i64 l']) := by show Row _ _ _ _; rw [hV7]; exact (HA6.out.far HNE.out.2.2.2.2.1 _).far HNE.out.2.2.2.2.1 _
    have HE7 : Hid (Row V7 g7 25 [.map (some bd)]) := by show Row _ _ _ _; rw [hV7]; exact (HE6.out.far HNE.out.2.2.2.2.2.2 _).far HNE.out.2.2.2.2.2.2 _
    have HS7 : Hid (Stay (fun b => b ≠ g9 ∧ b ≠ g11) w14 V7) := by show Stay _ _ _; rw [hV7]; exact HS6.out.trans ((Stay.set (fun h => h.2 rfl) _ _).trans (Stay.set (fun h => h.2 rfl) _ _))
    have HB7 : Hid (Below w.heap.size w V7) := by show Below _ _ _; rw [hV7]; exact (HB6.out.setCell (by show w.heap.size ≤ g11; omega) _).setCell (by show w.heap.size ≤ g11; omega) _
    have K7 : V7.cell? ⟨gA, 0, none⟩ = some (.map (some b')) ∧ V7.cell? ⟨gA, 1, none⟩ = some (.int .i64 l') ∧ V7.cell? ⟨gB, 0, none⟩ = some (.slice VA' n1' VC') ∧ V7.cell? ⟨gB, 1, none⟩ = some (.slice BA' n2' BC') := by
      rw [hV7]
      exact ⟨far_cell HNE.out.2.2.1 (far_cell HNE.out.2.2.1 K6.1), far_cell HNE.out.2.2.1 (far_cell HNE.out.2.2.1 K6.2.1), far_cell HNE.out.2.2.2.1 (far_cell HNE.out.2.2.2.1 K6.2.2.1), far_cell HNE.out.2.2.2.1 (far_cell HNE.out.2.2.2.1 K6.2.2.2)⟩
    clear m0 m1 m2 m3 m4 hV7
    refine hK.out _ _ K7 (fun hHeld => ?_)
    clear hK K
    try simp only [Act.put]
    try simp only [List.setIfInBounds_toArray]
    try simp only [List.set_cons_succ]
    try simp only [List.set_cons_zero]
    refine wpAnyH_done (by kernel_rfl) ?_ _
    clear hHeld K0 K6 K7
    go_wp2_with fail
    go_roundw
    case rel => exact ⟨i + 1, hil, by go_num, b', l', V', VA', n1', VC', BA', n2', BC', vs', bs', HA7.out, HC7.out, HE7.out, HSTN3.out.keep HS7.out, HRSN3.out.keep HS7.out, HRLN.out, HD3.out.keep HS7.out, HB7.out⟩
    case measure => simp [intOf]; omega

end Go.Proofs.Ytgaffbdcpkbdhaa
end

section
/- Opening the arguments of the laws of chapter 16: schemas, acts, lists of bools. -/
namespace Go.Proofs.Ytgaffbdcpkbdhaa
open Go.ChangeShapes Go.WideShapes Go.ChangeAt Go.RowKit Go.Joins Go.Deep

theorem cell_addr {w : World} {a : Addr} {v : Value} (h : w.cell? a = some v) : a = ⟨a.block, a.off, none⟩ ∧ a.block < w.heap.size := by
  obtain ⟨b, o, s⟩ := a
  unfold World.cell? at h
  simp only at h
  cases hh : w.heap[b]? with
  | none => rw [hh] at h; cases h
  | some ob =>
    have hlt : b < w.heap.size := by
      rcases Nat.lt_or_ge b w.heap.size with h1 | h1
      · exact h1
      · rw [Array.getElem?_eq_none h1] at hh; cases hh
    refine ⟨?_, hlt⟩
    rw [hh] at h
    cases ob with
    | cells c _ _ =>
      cases s with
      | none => rfl
      | some s => simp at h
    | _ => simp at h

theorem add_addr (b o i : Nat) : (Addr.add ⟨b, o, none⟩ i) = ⟨b, o + i, none⟩ := by
  unfold Addr.add
  split
  · next h => subst h; rfl
  · rfl

theorem rcells_div (y : RL.R) (i : Nat) (u : Value) (h : (rcells y)[i]? = some u) : ∃ v, y[i / 3]? = some v ∧ (vcells v)[i % 3]? = some u := by
  have hl : i < (rcells y).length := (List.getElem?_eq_some_iff.1 h).1
  rw [rcells_length] at hl
  have hq : i / 3 < y.length := by omega
  refine ⟨y[i / 3], List.getElem?_eq_getElem hq, ?_⟩
  obtain ⟨g0, g1, g2⟩ := rcells_get y (i / 3) _ (List.getElem?_eq_getElem hq)
  have hi : i = i / 3 * 3 + i % 3 := by omega
  have hr : i % 3 = 0 ∨ i % 3 = 1 ∨ i % 3 = 2 := by omega
  rcases hr with hr | hr | hr
  · rw [hr, Nat.add_zero] at hi; rw [hr]; rw [hi, g0] at h; exact h
  · rw [hr] at hi; rw [hr]; rw [hi, g1] at h; exact h
  · rw [hr] at hi; rw [hr]; rw [hi, g2] at h; exact h

section
variable {H : Type} {enc : TypeId × Value → H} {W : World} {n : Nat} {x : DataW H × List MemPlace}

theorem cells_TValue : Try.prog.cellsOf 75 = 3 := by kernel_rfl
theorem cells_TRow : Try.prog.cellsOf 54 = 1 := by kernel_rfl

set_option maxRecDepth 100000 in
/-- One value that reads. -/
theorem open_value {cs : List Value} (h : DataW.trod enc Try.prog W 0 (fun _ => true) true n 75 cs = some x) :
    ∃ v : RL.V, cs = vcells v ∧ v.str.size ≤ 9223372036854775807 := by
  obtain ⟨ys, n', _, _, hlen, hyl, hf⟩ := DataW.trod_struct Try.underlying75 h
  rw [cells_TValue] at hlen
  match cs, hlen with
  | [c0, c1, c2], _ =>
    match ys, hyl with
    | [y0, y1, y2], _ =>
      have h0 := hf 0 _ rfl
      have h1 := hf 1 _ rfl
      have h2 := hf 2 _ rfl
      obtain ⟨a0, e0, _, _⟩ := DataW.trod_int (k := .i64) (by kernel_rfl) h0
      obtain ⟨a1, e1, _, _⟩ := DataW.trod_int (k := .i64) (by kernel_rfl) h1
      obtain ⟨a2, e2, _, hz⟩ := DataW.trod_string (by kernel_rfl) h2
      have q0 : List.take (Try.prog.cellsOf 3) (List.drop 0 [c0, c1, c2]) = [.int .i64 a0] := e0
      have q1 : List.take (Try.prog.cellsOf 2) (List.drop 1 [c0, c1, c2]) = [.int .i64 a1] := e1
      have q2 : List.take (Try.prog.cellsOf 9) (List.drop 2 [c0, c1, c2]) = [.string a2] := e2
      rw [show Try.prog.cellsOf 3 = 1 by kernel_rfl] at q0
      rw [show Try.prog.cellsOf 2 = 1 by kernel_rfl] at q1
      rw [show Try.prog.cellsOf 9 = 1 by kernel_rfl] at q2
      simp at q0 q1 q2
      subst q0 q1 q2
      exact ⟨⟨a0, a1, a2⟩, rfl, hz⟩

theorem vcells_length (v : RL.V) : (vcells v).length = 3 := rfl

/-- A row that reads. -/
theorem open_row {cs : List Value} (h : DataW.trod enc Try.prog W 0 (fun _ => true) true n 54 cs = some x) :
    ∃ A C y, cs = [.slice A y.length C] ∧ SlR W.heap.size W A y ∧ y.length ≤ C ∧ C ≤ 9223372036854775807 ∧ BigW y := by
  rcases open_slice Try.underlying54 h with ⟨hcs, _⟩ | ⟨a, len, cap, m, n', D, Pl, hcs, _, hl, hm, hmm, _, hel⟩
  · exact ⟨none, 0, [], hcs, SlR.nil, Nat.le_refl _, by simp, by simp [BigW]⟩
  · rw [cells_TValue] at hel
    simp only [if_true] at hmm
    subst hmm
    have hch : ∀ i, i < len → ∃ v : RL.V, (∀ j, j < 3 → W.cell? (a.add (i * 3 + j)) = (vcells v)[j]?) ∧ v.str.size ≤ 9223372036854775807 := by
      intro i hi
      obtain ⟨cs', h1, h2⟩ := hel i (by omega)
      obtain ⟨v, rfl, hv⟩ := open_value h2
      obtain ⟨_, _, h3⟩ := World.cells?_some h1
      refine ⟨v, fun j hj => ?_, hv⟩
      rw [← Go.Deep.add_add]
      exact h3 j hj
    haveI : Inhabited RL.V := ⟨⟨0, 0, ByteArray.empty⟩⟩
    obtain ⟨f, hf⟩ := choose_lt hch
    refine ⟨some a, m, (List.range len).map f, by simpa using hcs, fun hne => ?_, by simpa using hl, hm, by simp only [List.length_map, List.length_range]; exact Nat.le_trans hl hm, ?_⟩
    · have hpos : 0 < len := by
        rcases Nat.eq_zero_or_pos len with h0 | h0
        · subst h0; exact absurd rfl hne
        · exact h0
      have h0 := (hf 0 hpos).1 0 (by omega)
      rw [show a.add (0 * 3 + 0) = a by unfold Addr.add; simp] at h0
      obtain ⟨ha, hb⟩ := cell_addr (h0.trans rfl)
      refine ⟨a.block, a.off, by rw [← ha], hb, fun i u hu => ?_⟩
      obtain ⟨v, hv, hvu⟩ := rcells_div _ _ _ hu
      rw [List.getElem?_map] at hv
      have hq : i / 3 < len := by
        rcases Nat.lt_or_ge (i / 3) len with h | h
        · exact h
        · rw [List.getElem?_eq_none (by simpa using h)] at hv; simp at hv
      rw [List.getElem?_range hq] at hv
      simp at hv
      subst hv
      have h1 := (hf _ hq).1 (i % 3) (by omega)
      rw [show i / 3 * 3 + i % 3 = i by omega, ha, add_addr] at h1
      rw [h1]
      exact hvu
    · intro v hv
      rw [List.mem_map] at hv
      obtain ⟨i, hi, rfl⟩ := hv
      exact (hf i (by simpa using hi)).2


/-- A slice of bools that reads. -/
theorem open_bools {cs : List Value} (h : DataW.trod enc Try.prog W 0 (fun _ => true) true n 43 cs = some x) :
    ∃ A C l, cs = [.slice A l.length C] ∧ BoolsM W.heap.size W A l ∧ l.length ≤ 9223372036854775807 := by
  rcases open_slice1 Try.underlying43 (by kernel_rfl) h with ⟨hcs, _⟩ | ⟨a, len, cap, m, n', V, D, Pl, hcs, _, hl, hm, hmm, hx, hel⟩
  · exact ⟨none, 0, [], hcs, fun h => absurd rfl h, by simp⟩
  · simp only [if_true] at hmm
    subst hmm
    have hm' : m ≤ 9223372036854775807 := hm
    have hch : ∀ i, i < len → ∃ y : Bool, W.cell? (a.add i) = some (.bool y) := by
      intro i hi
      obtain ⟨h1, h2⟩ := hel i (by omega)
      obtain ⟨b, e, _⟩ := DataW.trod_bool Try.underlying4 h2
      simp at e
      rw [e] at h1
      exact ⟨b, h1⟩
    obtain ⟨f, hf⟩ := choose_lt hch
    refine ⟨some a, m, (List.range len).map f, by simpa using hcs, fun hne => ?_, by simp only [List.length_map, List.length_range]; omega⟩
    have hpos : 0 < len := by
      rcases Nat.eq_zero_or_pos len with h0 | h0
      · subst h0; exact absurd rfl hne
      · exact h0
    have h0 := hf 0 hpos
    rw [show a.add 0 = a by unfold Addr.add; simp] at h0
    obtain ⟨ha, hb⟩ := cell_addr h0
    refine ⟨a.block, a.off, by rw [← ha], hb, fun i hi => ?_⟩
    have hi' : i < len := by simpa using hi
    have g0 := hf i hi'
    rw [ha, add_addr] at g0
    simpa using g0

theorem sl_open {k : IntKind} {w : World} {a : Addr} {zs : List Int} {len : Nat} (hl : len ≤ zs.length) (hcell : ∀ i, i < zs.length → w.cell? (a.add i) = some (.int k (zs.getD i 0))) :
    SlI k w.heap.size w (some a) (zs.take len) := by
  intro hne
  have hpos : 0 < (zs.take len).length := by
    rcases Nat.eq_zero_or_pos (zs.take len).length with h | h
    · exact absurd (by rw [List.eq_nil_of_length_eq_zero h]; rfl) hne
    · exact h
  rw [List.length_take] at hpos
  have h0 := hcell 0 (by omega)
  rw [show a.add 0 = a by unfold Addr.add; simp] at h0
  obtain ⟨ha, hb⟩ := cell_addr h0
  refine ⟨a.block, a.off, by rw [← ha], hb, fun i u hu => ?_⟩
  rw [List.getElem?_map] at hu
  cases hz : (zs.take len)[i]? with
  | none => rw [hz] at hu; simp at hu
  | some z =>
    rw [hz] at hu
    simp at hu
    subst hu
    obtain ⟨hi, hzi⟩ := List.getElem?_eq_some_iff.1 hz
    rw [List.length_take] at hi
    have h1 := hcell i (by omega)
    rw [ha, add_addr] at h1
    rw [h1]
    simp at hzi
    simp [show i < zs.length by omega, hzi]

/-- A slice of ints that reads. -/
theorem open_cols {cs : List Value} (h : DataW.trod enc Try.prog W 0 (fun _ => true) true n 36 cs = some x) :
    ∃ A c zs, cs = [.slice A zs.length c] ∧ SlI .i64 W.heap.size W A zs ∧ zs.length ≤ 9223372036854775807 := by
  rcases open_ints Try.underlying36 Try.underlying3 (by kernel_rfl) h with ⟨hcs, _⟩ | ⟨a, len, cap, zs, hcs, _, hl, hm, hz, _, hcell, hwz⟩
  · exact ⟨none, 0, [], hcs, Sl.nil, by simp⟩
  · simp at hz
    have hlz : len ≤ zs.length := by omega
    have hm' : cap ≤ 9223372036854775807 := hm
    refine ⟨some a, cap, zs.take len, ?_, sl_open hlz hcell, ?_⟩
    · rw [List.length_take, Nat.min_eq_left hlz]; exact hcs
    · rw [List.length_take]; omega

theorem cells_TSchema : Try.prog.cellsOf 73 = 2 := by kernel_rfl
theorem cells_TUpd : Try.prog.cellsOf 56 = 3 := by kernel_rfl
theorem cells_TAct16 : Try.prog.cellsOf 51 = 3 := by kernel_rfl

set_option maxRecDepth 100000 in
/-- One schema that reads. -/
theorem open_schema {cs : List Value} (h : DataW.trod enc Try.prog W 0 (fun _ => true) true n 73 cs = some x) :
    ∃ (s : ByteArray) (ks : List Int) (KA : Option Addr) (KC : Nat), cs = [.string s, .slice KA ks.length KC] ∧ SlI .i64 W.heap.size W KA ks ∧ s.size ≤ 9223372036854775807 ∧ ks.length ≤ 9223372036854775807 := by
  obtain ⟨ys, n', _, _, hlen, hyl, hf⟩ := DataW.trod_struct Try.underlying73 h
  rw [cells_TSchema] at hlen
  match cs, hlen with
  | [c0, c1], _ =>
    match ys, hyl with
    | [y0, y1], _ =>
      have h0 := hf 0 _ rfl
      have h1 := hf 1 _ rfl
      obtain ⟨a0, e0, _, hz⟩ := DataW.trod_string (by kernel_rfl) h0
      obtain ⟨KA, KC, ks, e1, hs, hk⟩ := open_cols h1
      have q0 : List.take (Try.prog.cellsOf 9) (List.drop 0 [c0, c1]) = [.string a0] := e0
      have q1 : List.take (Try.prog.cellsOf 36) (List.drop 1 [c0, c1]) = [.slice KA ks.length KC] := e1
      rw [show Try.prog.cellsOf 9 = 1 by kernel_rfl] at q0
      rw [show Try.prog.cellsOf 36 = 1 by kernel_rfl] at q1
      simp at q0 q1
      subst q0 q1
      exact ⟨a0, ks, KA, KC, rfl, hs, hz, hk⟩

/-- A list of schemas that reads. -/
theorem open_schemas {cs : List Value} (h : DataW.trod enc Try.prog W 0 (fun _ => true) true n 47 cs = some x) :
    ∃ A C X, cs = [.slice A X.length C] ∧ SchsM W.heap.size W A X ∧ SchsOk X ∧ X.length ≤ C ∧ C ≤ 9223372036854775807 := by
  rcases open_slice Try.underlying47 h with ⟨hcs, _⟩ | ⟨a, len, cap, m, n', D, Pl, hcs, _, hl, hm, hmm, hx, hel⟩
  · exact ⟨none, 0, [], hcs, fun h => absurd rfl h, fun p hp => (by cases hp), Nat.le_refl _, by simp⟩
  · rw [cells_TSchema] at hel
    simp only [if_true] at hmm
    subst hmm
    have hm' : m ≤ 9223372036854775807 := hm
    have hch : ∀ i, i < len → ∃ t : ByteArray × List Int, ∃ KA KC, W.cell? (a.add (i * 2)) = some (.string t.1) ∧ W.cell? (a.add (i * 2 + 1)) = some (.slice KA t.2.length KC) ∧ SlI .i64 W.heap.size W KA t.2 ∧ t.1.size ≤ 9223372036854775807 ∧ t.2.length ≤ 9223372036854775807 := by
      intro i hi
      obtain ⟨cs', h1, h2⟩ := hel i (by omega)
      obtain ⟨s, ks, KA, KC, rfl, hs, hz, hk⟩ := open_schema h2
      obtain ⟨_, _, h3⟩ := World.cells?_some h1
      refine ⟨(s, ks), KA, KC, ?_, ?_, hs, hz, hk⟩
      · have := h3 0 (by omega)
        rw [Go.Deep.add_add] at this
        exact this
      · have := h3 1 (by omega)
        rw [Go.Deep.add_add] at this
        exact this
    haveI : Inhabited (ByteArray × List Int) := ⟨⟨ByteArray.empty, []⟩⟩
    obtain ⟨f, hf⟩ := choose_lt hch
    refine ⟨some a, m, (List.range len).map f, by simpa using hcs, fun hne => ?_, ?_, by simpa using hl, hm'⟩
    · have hpos : 0 < len := by
        rcases Nat.eq_zero_or_pos len with h0 | h0
        · subst h0; exact absurd rfl hne
        · exact h0
      obtain ⟨_, _, h0, _⟩ := hf 0 hpos
      rw [show a.add (0 * 2) = a by unfold Addr.add; simp] at h0
      obtain ⟨ha, hb⟩ := cell_addr h0
      refine ⟨a.block, a.off, by rw [← ha], hb, fun i hi => ?_⟩
      have hi' : i < len := by simpa using hi
      obtain ⟨KA, KC, g0, g1, g2, _⟩ := hf i hi'
      rw [ha, add_addr] at g0 g1
      refine ⟨KA, KC, ?_, ?_, ?_⟩
      · simpa using g0
      · rw [← Nat.add_assoc] at g1
        simpa using g1
      · simpa using g2
    · intro p hp
      rw [List.mem_map] at hp
      obtain ⟨i, hi, rfl⟩ := hp
      obtain ⟨_, _, _, _, _, g⟩ := hf i (by simpa using hi)
      exact g

set_option maxRecDepth 100000 in
/-- One update that reads. -/
theorem open_upd {cs : List Value} (h : DataW.trod enc Try.prog W 0 (fun _ => true) true n 56 cs = some x) :
    ∃ (u : Upd) (RA : Option Addr) (RC : Nat), cs = [.bool u.del, .string u.rel, .slice RA u.row.length RC] ∧ SlR W.heap.size W RA u.row ∧ u.rel.size ≤ 9223372036854775807 ∧ u.row.length ≤ 9223372036854775807 ∧ BigW u.row := by
  obtain ⟨ys, n', _, _, hlen, hyl, hf⟩ := DataW.trod_struct Try.underlying56 h
  rw [cells_TUpd] at hlen
  match cs, hlen with
  | [c0, c1, c2], _ =>
    match ys, hyl with
    | [y0, y1, y2], _ =>
      have h0 := hf 0 _ rfl
      have h1 := hf 1 _ rfl
      have h2 := hf 2 _ rfl
      obtain ⟨a0, e0, _⟩ := DataW.trod_bool (by kernel_rfl) h0
      obtain ⟨a1, e1, _, hz⟩ := DataW.trod_string (by kernel_rfl) h1
      obtain ⟨RA, RC, y, e2, hs, hk, hk2, hbr⟩ := open_row h2
      have q0 : List.take (Try.prog.cellsOf 4) (List.drop 0 [c0, c1, c2]) = [.bool a0] := e0
      have q1 : List.take (Try.prog.cellsOf 9) (List.drop 1 [c0, c1, c2]) = [.string a1] := e1
      have q2 : List.take (Try.prog.cellsOf 54) (List.drop 2 [c0, c1, c2]) = [.slice RA y.length RC] := e2
      rw [show Try.prog.cellsOf 4 = 1 by kernel_rfl] at q0
      rw [show Try.prog.cellsOf 9 = 1 by kernel_rfl] at q1
      rw [cells_TRow] at q2
      simp at q0 q1 q2
      subst q0 q1 q2
      exact ⟨⟨a0, a1, y⟩, RA, RC, rfl, hs, hz, Nat.le_trans hk hk2, hbr⟩

/-- A list of updates that reads. -/
theorem open_upds {cs : List Value} (h : DataW.trod enc Try.prog W 0 (fun _ => true) true n 49 cs = some x) :
    ∃ A C X, cs = [.slice A X.length C] ∧ UpdsM W.heap.size W A X ∧ (∀ u ∈ X, u.rel.size ≤ 9223372036854775807 ∧ u.row.length ≤ 9223372036854775807 ∧ BigW u.row) ∧ X.length ≤ C ∧ C ≤ 9223372036854775807 := by
  rcases open_slice Try.underlying49 h with ⟨hcs, _⟩ | ⟨a, len, cap, m, n', D, Pl, hcs, _, hl, hm, hmm, hx, hel⟩
  · exact ⟨none, 0, [], hcs, fun h => absurd rfl h, fun p hp => (by cases hp), Nat.le_refl _, by simp⟩
  · rw [cells_TUpd] at hel
    simp only [if_true] at hmm
    subst hmm
    have hm' : m ≤ 9223372036854775807 := hm
    have hch : ∀ i, i < len → ∃ t : Upd, ∃ RA RC, W.cell? (a.add (i * 3)) = some (.bool t.del) ∧ W.cell? (a.add (i * 3 + 1)) = some (.string t.rel) ∧ W.cell? (a.add (i * 3 + 2)) = some (.slice RA t.row.length RC) ∧ SlR W.heap.size W RA t.row ∧ t.rel.size ≤ 9223372036854775807 ∧ t.row.length ≤ 9223372036854775807 ∧ BigW t.row := by
      intro i hi
      obtain ⟨cs', h1, h2⟩ := hel i (by omega)
      obtain ⟨u, RA, RC, rfl, hs, g⟩ := open_upd h2
      obtain ⟨_, _, h3⟩ := World.cells?_some h1
      refine ⟨u, RA, RC, ?_, ?_, ?_, hs, g⟩
      · have := h3 0 (by omega)
        rw [Go.Deep.add_add] at this
        exact this
      · have := h3 1 (by omega)
        rw [Go.Deep.add_add] at this
        exact this
      · have := h3 2 (by omega)
        rw [Go.Deep.add_add] at this
        exact this
    haveI : Inhabited Upd := ⟨⟨false, ByteArray.empty, []⟩⟩
    obtain ⟨f, hf⟩ := choose_lt hch
    refine ⟨some a, m, (List.range len).map f, by simpa using hcs, fun hne => ?_, ?_, by simpa using hl, hm'⟩
    · have hpos : 0 < len := by
        rcases Nat.eq_zero_or_pos len with h0 | h0
        · subst h0; exact absurd rfl hne
        · exact h0
      obtain ⟨_, _, h0, _⟩ := hf 0 hpos
      rw [show a.add (0 * 3) = a by unfold Addr.add; simp] at h0
      obtain ⟨ha, hb⟩ := cell_addr h0
      refine ⟨a.block, a.off, by rw [← ha], hb, fun i hi => ?_⟩
      have hi' : i < len := by simpa using hi
      obtain ⟨RA, RC, g0, g1, g2, g3, _⟩ := hf i hi'
      rw [ha, add_addr] at g0 g1 g2
      rw [← Nat.add_assoc] at g1 g2
      refine ⟨RA, RC, ?_, ?_, ?_, ?_⟩
      · simpa using g0
      · simpa using g1
      · simpa using g2
      · simpa using g3
    · intro p hp
      rw [List.mem_map] at hp
      obtain ⟨i, hi, rfl⟩ := hp
      obtain ⟨_, _, _, _, _, _, g⟩ := hf i (by simpa using hi)
      exact g

set_option maxRecDepth 100000 in
/-- One act that reads. -/
theorem open_act {cs : List Value} (h : DataW.trod enc Try.prog W 0 (fun _ => true) true n 51 cs = some x) :
    ∃ (a : ActR) (UA : Option Addr) (UC : Nat), cs = [.int .u8 (a.kind : Nat), .int .i64 a.num, .slice UA a.us.length UC] ∧ UpdsM W.heap.size W UA a.us ∧ a.us.length ≤ UC ∧ ActOk a := by
  obtain ⟨ys, n', _, _, hlen, hyl, hf⟩ := DataW.trod_struct Try.underlying51 h
  rw [cells_TAct16] at hlen
  match cs, hlen with
  | [c0, c1, c2], _ =>
    match ys, hyl with
    | [y0, y1, y2], _ =>
      have h0 := hf 0 _ rfl
      have h1 := hf 1 _ rfl
      have h2 := hf 2 _ rfl
      obtain ⟨a0, e0, _, w0⟩ := DataW.trod_int (k := .u8) (by kernel_rfl) h0
      obtain ⟨a1, e1, _, w1⟩ := DataW.trod_int (k := .i64) (by kernel_rfl) h1
      obtain ⟨UA, UC, us, e2, hs, ho, hc, hc2⟩ := open_upds h2
      have b0 := bounds_u8 w0
      obtain ⟨a0, rfl⟩ := Int.eq_ofNat_of_zero_le b0.1
      have q0 : List.take (Try.prog.cellsOf 5) (List.drop 0 [c0, c1, c2]) = [.int .u8 a0] := e0
      have q1 : List.take (Try.prog.cellsOf 3) (List.drop 1 [c0, c1, c2]) = [.int .i64 a1] := e1
      have q2 : List.take (Try.prog.cellsOf 49) (List.drop 2 [c0, c1, c2]) = [.slice UA us.length UC] := e2
      rw [show Try.prog.cellsOf 5 = 1 by kernel_rfl] at q0
      rw [show Try.prog.cellsOf 3 = 1 by kernel_rfl] at q1
      rw [show Try.prog.cellsOf 49 = 1 by kernel_rfl] at q2
      simp at q0 q1 q2
      subst q0 q1 q2
      exact ⟨⟨a0, a1, us⟩, UA, UC, rfl, hs, hc, by show a0 ≤ 255; omega, w1, Nat.le_trans hc hc2, ho⟩

set_option maxRecDepth 100000 in
/-- An act, as a value. -/
theorem open_act16V {r : Reach} {b0 : Nat} {v : Value} {d : DataW H} {p : List MemPlace} (hv : Value.okWide Try.prog W r b0 51 v) (h : DataW.Trod enc Try.prog W 0 (fun _ => true) true 51 v d p) :
    ∃ (a : ActR) (UA : Option Addr) (UC : Nat), v = .agg #[.int .u8 (a.kind : Nat), .int .i64 a.num, .slice UA a.us.length UC] ∧ UpdsM W.heap.size W UA a.us ∧ a.us.length ≤ UC ∧ ActOk a := by
  obtain ⟨cs, rfl, _⟩ := okWide_struct Try.underlying51 hv
  obtain ⟨fuel, hf⟩ := h
  obtain ⟨l⟩ := cs
  simp only [Value.cells] at hf
  obtain ⟨a, UA, UC, rfl, h1, h2, h3⟩ := open_act hf
  exact ⟨a, UA, UC, rfl, h1, h2, h3⟩

/-- A list of acts that reads. -/
theorem open_act16s {cs : List Value} (h : DataW.trod enc Try.prog W 0 (fun _ => true) true n 48 cs = some x) :
    ∃ A C X, cs = [.slice A X.length C] ∧ ActsM W.heap.size W A X ∧ (∀ a ∈ X, ActOk a) ∧ X.length ≤ C ∧ C ≤ 9223372036854775807 := by
  rcases open_slice Try.underlying48 h with ⟨hcs, _⟩ | ⟨a, len, cap, m, n', D, Pl, hcs, _, hl, hm, hmm, hx, hel⟩
  · exact ⟨none, 0, [], hcs, fun h => absurd rfl h, fun p hp => (by cases hp), Nat.le_refl _, by simp⟩
  · rw [cells_TAct16] at hel
    simp only [if_true] at hmm
    subst hmm
    have hm' : m ≤ 9223372036854775807 := hm
    have hch : ∀ i, i < len → ∃ t : ActR, ∃ UA UC, W.cell? (a.add (i * 3)) = some (.int .u8 (t.kind : Nat)) ∧ W.cell? (a.add (i * 3 + 1)) = some (.int .i64 t.num) ∧ W.cell? (a.add (i * 3 + 2)) = some (.slice UA t.us.length UC) ∧ t.us.length ≤ UC ∧ UpdsM W.heap.size W UA t.us ∧ ActOk t := by
      intro i hi
      obtain ⟨cs', h1, h2⟩ := hel i (by omega)
      obtain ⟨u, UA, UC, rfl, hs, g, go⟩ := open_act h2
      obtain ⟨_, _, h3⟩ := World.cells?_some h1
      refine ⟨u, UA, UC, ?_, ?_, ?_, g, hs, go⟩
      · have := h3 0 (by omega)
        rw [Go.Deep.add_add] at this
        exact this
      · have := h3 1 (by omega)
        rw [Go.Deep.add_add] at this
        exact this
      · have := h3 2 (by omega)
        rw [Go.Deep.add_add] at this
        exact this
    haveI : Inhabited ActR := ⟨⟨0, 0, []⟩⟩
    obtain ⟨f, hf⟩ := choose_lt hch
    refine ⟨some a, m, (List.range len).map f, by simpa using hcs, fun hne => ?_, ?_, by simpa using hl, hm'⟩
    · have hpos : 0 < len := by
        rcases Nat.eq_zero_or_pos len with h0 | h0
        · subst h0; exact absurd rfl hne
        · exact h0
      obtain ⟨_, _, h0, _⟩ := hf 0 hpos
      rw [show a.add (0 * 3) = a by unfold Addr.add; simp] at h0
      obtain ⟨ha, hb⟩ := cell_addr h0
      refine ⟨a.block, a.off, by rw [← ha], hb, fun i hi => ?_⟩
      have hi' : i < len := by simpa using hi
      obtain ⟨UA, UC, g0, g1, g2, g3, g4, _⟩ := hf i hi'
      rw [ha, add_addr] at g0 g1 g2
      rw [← Nat.add_assoc] at g1 g2
      refine ⟨UA, UC, ?_, ?_, ?_, ?_, ?_⟩
      · simpa using g0
      · simpa using g1
      · simpa using g2
      · simpa using g3
      · simpa using g4
    · intro p hp
      rw [List.mem_map] at hp
      obtain ⟨i, hi, rfl⟩ := hp
      obtain ⟨_, _, _, _, _, _, _, g⟩ := hf i (by simpa using hi)
      exact g
end
end Go.Proofs.Ytgaffbdcpkbdhaa
end

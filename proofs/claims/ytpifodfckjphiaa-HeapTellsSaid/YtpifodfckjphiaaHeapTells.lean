/- The law HeapTells of chapter 02 holds for every input: it returns true, and its arguments stay. No conditions. -/
import Derived.Test.YtpifodfckjphiaaRows
import Derived.Test.YtpifodfckjphiaaLY
import Derived.Test.YtpifodfckjphiaaLW2
import Derived.Deep.RegionHeld3
import Derived.Deep.RegionWith
import Derived.StillTailTactics
import Derived.Deep.CutBlock
import Derived.WalkKit
import Derived.ProofKit
import Derived.OpenShut
import Derived.ChangeOld
import Derived.Below
namespace Go.Proofs.Ytpifodfckjphiaa.heapTells
open Go.ChangeShapes Go.WideShapes Go.ChangeAt Go.RowKit Go.Deep Go.Joins Go.Maps
set_option linter.unusedVariables false
set_option linter.unusedSimpArgs false

theorem own : ownKnob Try.prog.godebug = none := by kernel_rfl
theorem laidOut : laidOutB Try.prog = true := by kernel_rfl

set_option maxRecDepth 100000 in
set_option maxHeartbeats 40000000 in
theorem walk (w : World) (A0 : Option Addr) (n0 c0 : Nat) (T0 : Nat → DeedT) (R0 : RawD w A0 n0 c0 T0) (a1 : Int) (r1_ : InI a1) :
    Calls Try.prog 3 #[.slice A0 n0 c0, .int .i64 a1] w fun e w' => e = .returned (.bool true) ∧ Below w.heap.size w w' := by
  have HR := Lib.hid R0
  have hcap : n0 ≤ 9223372036854775807 := Nat.le_trans R0.le R0.cap
  clear R0
  have HI1 := Lib.hid r1_
  clear r1_
  obtain ⟨q, hq⟩ : ∃ q, min n0 30 = q := ⟨_, rfl⟩
  have hq50 : q ≤ 30 := by omega
  have hqn : q ≤ n0 := by omega
  have HQ := Lib.hid hq
  clear hq
  go_enter Try.func3, Try.ntmps3
  go_upto_block 0 with (first | (go_at_call 10; (with_reducible refine (pnew_any _ 600 (inI_of (by decide) (by decide))).mono ?_); rintro e w1 ⟨h, B1⟩; rw [if_pos (show okN 600 = true from rfl)] at h; obtain ⟨s, bw, bm, rfl, qs, P1⟩ := h; have HP1 := Lib.hid P1; have HQ1 := Lib.hid qs; have HB1 := Lib.hid B1; clear P1 qs B1) | (go_at_call 11; (with_reducible refine (new_r (inI_of (by decide) (by decide)) (show okN 600 = true from rfl) HP1.out HQ1.out HB1.out).mono ?_); rintro e w2 ⟨r, rfl, hst⟩; have HS := Lib.hid hst; clear hst))
  go_cut [] (fun wx => ∃ m, LSt w wx s r m)
  case first =>
    go_wp2_with fail
    go_loopw [7] (fun i wr => ∃ k : Nat, k ≤ q ∧ i = .int .i64 k ∧ ∃ m, LSt w wr s r m) (fun i _ => q - (intOf i).toNat)
    case atStart => exact ⟨0, Nat.zero_le _, rfl, _, HS.out⟩
    case round =>
      obtain ⟨k, hk, rfl, m, hst⟩ := hrel
      replace HS := Lib.hid hst
      clear hst
      by_cases hlt : k < q
      · have d1 : decide (k < n0) = true := decide_eq_true (by omega)
        have d2 : decide (k < 30) = true := decide_eq_true (by omega)
        have d3 : decide ((k : Int) < 30) = true := decide_eq_true (by omega)
        have hkn : k < n0 := by omega
        obtain ⟨g, off, rfl, hgl, e0, e1, e2, e3, e4, e5, e6⟩ := (HR.out.below HS.out.stays).at_ k hkn
        obtain ⟨t, ht⟩ : ∃ t, T0 k = t := ⟨_, rfl⟩
        have HD := Lib.hid (HR.out.each k hkn)
        rw [ht] at e0 e1 e2 e3 e4 e5 e6 HD
        clear ht hgl
        have g0 : (0 : Int) ≤ (k : Int) := by omega
        have g1 : (k : Int) < (n0 : Int) := by omega
        go_wp2_with (go_at_call 12; (with_reducible refine (does_law HS.out HD.out).mono ?_); rintro e w3 ⟨rfl, hst⟩; replace HS := Lib.hid hst; clear hst)
        go_roundw
        case rel => exact ⟨k + 1, by omega, by go_num, _, HS.out⟩
        case measure => simp [intOf]; omega
      · have hkn : k = q := by omega
        rcases Nat.lt_or_ge k n0 with z | z
        · have d1 : decide (k < n0) = true := decide_eq_true z
          have hk50 : k = 30 := by have := HQ.out; omega
          have d2 : decide (k < 30) = false := decide_eq_false (by omega)
          have d3 : decide ((k : Int) < 30) = false := decide_eq_false (by omega)
          clear hlt hk50 hkn
          go_wp2_with fail
          go_meet
          exact ⟨_, HS.out⟩
        · have d1 : decide (k < n0) = false := decide_eq_false (by omega)
          clear hlt hkn
          go_wp2_with fail
          go_meet
          exact ⟨_, HS.out⟩
  case rest =>
    obtain ⟨m, hst⟩ := hcut
    replace HS := Lib.hid hst
    have HG := Lib.hid hst.lg
    have HSO := Lib.hid hst.sound
    clear hst
    obtain ⟨vi, hvi⟩ : ∃ vi, isV m.L a1 = vi := ⟨_, rfl⟩
    obtain ⟨vm, hvm⟩ : ∃ vm, mayV m.L a1 = vm := ⟨_, rfl⟩
    have HVI := Lib.hid hvi
    have HVM := Lib.hid hvm
    clear hvi hvm HS
    go_wp2_with (first | (go_at_call 13; (with_reducible refine (g_look HG.out a1).mono ?_); rintro e w4 ⟨x0, x1, x2, FA, nf, fc, rfl, h0, h1, h2, h3, hst⟩; have HX0 := Lib.hid h0; have HX1 := Lib.hid h1; have HX2 := Lib.hid h2; have HX3 : Hid (((lookO m.L a1).F.length : Int) = (nf : Int)) := (Lib.hid (by rw [h3])); replace HG := Lib.hid hst; clear hst h0 h1 h2 h3))
    obtain ⟨wx, hwx⟩ : ∃ wx, w4.alloc (.cells #[.int .i64 x0, .int .i64 x1, .int .i64 x2, .slice FA nf fc] 32) = wx := ⟨_, rfl⟩
    rw [hwx]
    have hbx : Below w4.heap.size w4 wx := by rw [← hwx]; exact (Below.refl _ _).alloc (Nat.le_refl _) _
    have hhx : wx.heap[w4.heap.size]? = some (.cells #[.int .i64 x0, .int .i64 x1, .int .i64 x2, .slice FA nf fc] 32 (0, 0)) := by rw [← hwx]; exact (MapKept.heap_alloc w4 _).1
    obtain ⟨bb, hbb⟩ : ∃ bb, w4.heap.size = bb := ⟨_, rfl⟩
    rw [hbb] at hhx ⊢
    have b0 : wx.drew.cell? ⟨bb, 0, none⟩ = some (.int .i64 x0) := by rw [show wx.drew.cell? ⟨bb, 0, none⟩ = wx.cell? ⟨bb, 0, none⟩ from rfl]; simp [World.cell?, hhx]
    have b1 : wx.drew.cell? ⟨bb, 1, none⟩ = some (.int .i64 x1) := by rw [show wx.drew.cell? ⟨bb, 1, none⟩ = wx.cell? ⟨bb, 1, none⟩ from rfl]; simp [World.cell?, hhx]
    have b2 : wx.drew.cell? ⟨bb, 2, none⟩ = some (.int .i64 x2) := by rw [show wx.drew.cell? ⟨bb, 2, none⟩ = wx.cell? ⟨bb, 2, none⟩ from rfl]; simp [World.cell?, hhx]
    have b3 : wx.drew.cell? ⟨bb, 3, none⟩ = some (.slice FA nf fc) := by rw [show wx.drew.cell? ⟨bb, 3, none⟩ = wx.cell? ⟨bb, 3, none⟩ from rfl]; simp [World.cell?, hhx]
    replace HG := Lib.hid (HG.out.below hbx).drew
    clear hbx hhx hbb hwx
    go_region_held3 (fun w' => w'.cell? ⟨bb, 0, none⟩ = some (.int .i64 x0) ∧ w'.cell? ⟨bb, 1, none⟩ = some (.int .i64 x1) ∧ w'.cell? ⟨bb, 2, none⟩ = some (.int .i64 x2) ∧ w'.cell? ⟨bb, 3, none⟩ = some (.slice FA nf fc)) (first | (refine ⟨?_, ?_, ?_, ?_⟩ <;> assumption) | assumption) (first | (go_at_call 14; (with_reducible refine (g_is HG.out a1).mono ?_); rw [HVI.out]; rintro e w6 ⟨rfl, hst, hh⟩; replace HG := Lib.hid hst; clear hst; have b0 : w6.cell? ⟨bb, 0, none⟩ = some (.int .i64 x0) := (heap_cell hh _).trans b0; have b1 : w6.cell? ⟨bb, 1, none⟩ = some (.int .i64 x1) := (heap_cell hh _).trans b1; have b2 : w6.cell? ⟨bb, 2, none⟩ = some (.int .i64 x2) := (heap_cell hh _).trans b2; have b3 : w6.cell? ⟨bb, 3, none⟩ = some (.slice FA nf fc) := (heap_cell hh _).trans b3; clear hh) | (go_at_call 15; (with_reducible refine (g_ris HG.out a1).mono ?_); rw [HVI.out]; rintro e w6 ⟨rfl, hw6⟩; replace hw6 := hw6.symm; subst hw6) | (go_at_call 16; (with_reducible refine (g_may HG.out a1).mono ?_); rw [HVM.out]; rintro e w6 ⟨rfl, hst, hh⟩; replace HG := Lib.hid hst; clear hst; have b0 : w6.cell? ⟨bb, 0, none⟩ = some (.int .i64 x0) := (heap_cell hh _).trans b0; have b1 : w6.cell? ⟨bb, 1, none⟩ = some (.int .i64 x1) := (heap_cell hh _).trans b1; have b2 : w6.cell? ⟨bb, 2, none⟩ = some (.int .i64 x2) := (heap_cell hh _).trans b2; have b3 : w6.cell? ⟨bb, 3, none⟩ = some (.slice FA nf fc) := (heap_cell hh _).trans b3; clear hh) | (go_at_call 17; (with_reducible refine (g_rmay HG.out a1).mono ?_); rw [HVM.out]; rintro e w6 ⟨rfl, hw6⟩; replace hw6 := hw6.symm; subst hw6) | (go_at_call 18; (with_reducible refine (g_class HG.out a1).mono ?_); rw [HX0.out]; rintro e w6 ⟨rfl, hst, hh⟩; replace HG := Lib.hid hst; clear hst; have b0 : w6.cell? ⟨bb, 0, none⟩ = some (.int .i64 x0) := (heap_cell hh _).trans b0; have b1 : w6.cell? ⟨bb, 1, none⟩ = some (.int .i64 x1) := (heap_cell hh _).trans b1; have b2 : w6.cell? ⟨bb, 2, none⟩ = some (.int .i64 x2) := (heap_cell hh _).trans b2; have b3 : w6.cell? ⟨bb, 3, none⟩ = some (.slice FA nf fc) := (heap_cell hh _).trans b3; clear hh) | (go_at_call 19; (with_reducible refine (g_format HG.out a1).mono ?_); rw [HX1.out]; rintro e w6 ⟨rfl, hst, hh⟩; replace HG := Lib.hid hst; clear hst; have b0 : w6.cell? ⟨bb, 0, none⟩ = some (.int .i64 x0) := (heap_cell hh _).trans b0; have b1 : w6.cell? ⟨bb, 1, none⟩ = some (.int .i64 x1) := (heap_cell hh _).trans b1; have b2 : w6.cell? ⟨bb, 2, none⟩ = some (.int .i64 x2) := (heap_cell hh _).trans b2; have b3 : w6.cell? ⟨bb, 3, none⟩ = some (.slice FA nf fc) := (heap_cell hh _).trans b3; clear hh) | (go_at_call 20; (with_reducible refine (g_hash HG.out a1).mono ?_); rw [HX2.out]; rintro e w6 ⟨rfl, hst, hh⟩; replace HG := Lib.hid hst; clear hst; have b0 : w6.cell? ⟨bb, 0, none⟩ = some (.int .i64 x0) := (heap_cell hh _).trans b0; have b1 : w6.cell? ⟨bb, 1, none⟩ = some (.int .i64 x1) := (heap_cell hh _).trans b1; have b2 : w6.cell? ⟨bb, 2, none⟩ = some (.int .i64 x2) := (heap_cell hh _).trans b2; have b3 : w6.cell? ⟨bb, 3, none⟩ = some (.slice FA nf fc) := (heap_cell hh _).trans b3; clear hh) | (go_at_call 21; (with_reducible refine (g_fields HG.out a1).mono ?_); rw [HX3.out]; rintro e w6 ⟨rfl, hst, hh⟩; replace HG := Lib.hid hst; clear hst; have b0 : w6.cell? ⟨bb, 0, none⟩ = some (.int .i64 x0) := (heap_cell hh _).trans b0; have b1 : w6.cell? ⟨bb, 1, none⟩ = some (.int .i64 x1) := (heap_cell hh _).trans b1; have b2 : w6.cell? ⟨bb, 2, none⟩ = some (.int .i64 x2) := (heap_cell hh _).trans b2; have b3 : w6.cell? ⟨bb, 3, none⟩ = some (.slice FA nf fc) := (heap_cell hh _).trans b3; clear hh) | (go_at_call 22; (with_reducible refine (lives_any _).mono ?_); rintro e w6 ⟨rfl, hb5⟩; have hg5 := HG.out.below hb5; have b0 : w6.cell? ⟨bb, 0, none⟩ = some (.int .i64 x0) := (hb5.cell (cell_lt (by assumption))).trans b0; have b1 : w6.cell? ⟨bb, 1, none⟩ = some (.int .i64 x1) := (hb5.cell (cell_lt (by assumption))).trans b1; have b2 : w6.cell? ⟨bb, 2, none⟩ = some (.int .i64 x2) := (hb5.cell (cell_lt (by assumption))).trans b2; have b3 : w6.cell? ⟨bb, 3, none⟩ = some (.slice FA nf fc) := (hb5.cell (cell_lt (by assumption))).trans b3; replace HG := Lib.hid hg5; clear hb5 hg5))
    go_wp2
    go_ret
    exact ⟨ret_bool (by simp), HG.out.stays⟩


/-! ### the row's step -/
set_option maxRecDepth 100000 in
theorem lifted (os : Os) (started : os.Started) (H : Type) (enc : TypeId × Value → H) :
    ReturnsInHanded {} Try.checked os 3 .any (Rows.heapTellsSpec.pre6 enc Try.prog Try.f3 Rows.heapTellsRow.domain false) (Rows.heapTellsSpec.post enc Try.prog Try.f3 false true false false) := by
  refine returnsInHanded_of_change (C := Try.checked) own started (by kernel_rfl) Try.func3
    (ChangeSpec.witness6 (enc := enc) (C := Try.checked) false ⟨#[], #[.slice none 0 0, .int .i64 0], []⟩ 8 (by kernel_rfl) (by kernel_rfl) (by kernel_rfl) (by kernel_rfl)) ?_
  intro W base args ds gs before hval0 hW hcnd _
  have hval : ∀ (j : Nat) t v, Try.f3.params[j]? = some t → args[j]? = some v → Value.okWide Try.prog W .any base t v := hval0
  have hW' := hW
  obtain ⟨p, q, hA0, hV, rfl, hfz, hnd⟩ := hW
  have hA : DataW.TrodAll enc Try.prog W 0 (fun _ => true) true Try.f3.params.toList args.toList ds p := hA0
  rw [Try.params3] at hA hval
  obtain ⟨v0, vs0, d0, ds0, p0, q0, hargs, rfl, rfl, h0, r0⟩ := trodAll_cons hA
  obtain ⟨v1, vs1, d1, ds1, p1, q1, rfl, rfl, rfl, h1, r1⟩ := trodAll_cons r0
  obtain ⟨rfl, rfl, rfl⟩ := trodAll_nil r1
  obtain rfl : args = #[v0, v1] := by cases args; simp_all
  obtain ⟨rfl, rfl⟩ := trodVars_none hV
  have k0 := h0
  have lt0 : ∀ x ∈ p0, x.block < W.heap.size := by obtain ⟨m, hm⟩ := k0; exact DataW.trod_lt m _ _ _ hm
  obtain ⟨A0, n0, c0, C0, rfl, R0⟩ := open_deeds (hval 0 22 v0 rfl rfl) h0
  obtain ⟨a1, rfl, rfl, rfl, w1⟩ := open_int Try.underlying3 (hval 1 3 v1 rfl rfl) h1
  clear hA0 hval0
  refine (walk W _ _ _ _ R0 _ (bounds_i64 w1)).mono fun e W' ⟨he, bel⟩ => ?_
  subst he
  exact ⟨_, rfl, _, _, _, [], _, [], hW', trodAll_mk1 (shut_bool Try.underlying4 _), (trodAll_cons_mk (Below.trod laidOut (by kernel_rfl) (of_decide_eq_true (by kernel_rfl)) k0 bel lt0) (trodAll_cons_mk (shut_int Try.underlying3 w1) trodAll_mk0)), rfl, bel.frame _, fun h => by cases h⟩

theorem over : Rows.heapTellsRow.holds Try.pinned (OpenSpec.ofChange Rows.heapTellsSpec) :=
  OpenClaim.holds_of_wide 3 Try.f3 rfl rfl rfl rfl rfl rfl rfl ⟨rfl, rfl, rfl, rfl, rfl⟩ rfl rfl rfl rfl rfl (by kernel_rfl) Try.func3 (by kernel_rfl)
    (of_decide_eq_true (by kernel_rfl)) (by unfold Func.isWrapper; first | (rw [if_pos (by decide +kernel)]; kernel_rfl) | (rw [if_neg (by decide +kernel)]; exact ⟨rfl, rfl⟩))
    (fun os started H enc _ => lifted os started H enc)

theorem proved : Rows.HeapTellsSaid := over
end Go.Proofs.Ytpifodfckjphiaa.heapTells

/- The law HeapPlays of chapter 02 holds for every input: it returns true, and its arguments stay. No conditions. -/
import Derived.Test.YtpifodfckjphiaaRows
import Derived.Test.YtpifodfckjphiaaLX
import Derived.Test.YtpifodfckjphiaaLW2
import Derived.Deep.RegionHeld3
import Derived.Deep.RegionWith
import Derived.StillTailTactics
import Derived.Deep.CutBlock
import Derived.WalkKit
import Derived.ProofKit
import Derived.OpenShut
import Derived.ChangeOld
import Derived.Below
namespace Go.Proofs.Ytpifodfckjphiaa.heapPlays
open Go.ChangeShapes Go.WideShapes Go.ChangeAt Go.RowKit Go.Deep Go.Joins Go.Maps
set_option linter.unusedVariables false
set_option linter.unusedSimpArgs false

theorem own : ownKnob Try.prog.godebug = none := by kernel_rfl
theorem laidOut : laidOutB Try.prog = true := by kernel_rfl

set_option maxRecDepth 100000 in
set_option maxHeartbeats 40000000 in
theorem walk (w : World) (a0 : Int) (r0_ : InI a0) (A1 : Option Addr) (n1 c1 : Nat) (T1 : Nat → DeedT) (R1 : RawD w A1 n1 c1 T1) :
    Calls Try.prog 5 #[.int .i64 a0, .slice A1 n1 c1] w fun e w' => e = .returned (.bool true) ∧ Below w.heap.size w w' := by
  have HR := Lib.hid R1
  have hcap : n1 ≤ 9223372036854775807 := Nat.le_trans R1.le R1.cap
  have HI0 := Lib.hid r0_
  clear R1 r0_
  by_cases hok : okN a0 = true
  · have HOK := Lib.hid hok
    clear hok
    obtain ⟨q, hq⟩ : ∃ q, min n1 50 = q := ⟨_, rfl⟩
    have hq50 : q ≤ 50 := by omega
    have hqn : q ≤ n1 := by omega
    have HQ := Lib.hid hq
    clear hq
    go_enter Try.func5, Try.ntmps5
    go_wp2_with (first | (go_at_call 10; (with_reducible refine (pnew_any _ a0 HI0.out).mono ?_); rintro e w1 ⟨h, B1⟩; rw [if_pos HOK.out] at h; obtain ⟨s, bw, bm, rfl, qs, P1⟩ := h; have HP1 := Lib.hid P1; have HQ1 := Lib.hid qs; have HB1 := Lib.hid B1; clear P1 qs B1) | (go_at_call 11; (with_reducible refine (new_r HI0.out HOK.out HP1.out HQ1.out HB1.out).mono ?_); rintro e w2 ⟨r, rfl, hst⟩; have HS := Lib.hid hst; clear hst))
    go_loopw [7] (fun i wr => ∃ k : Nat, k ≤ q ∧ i = .int .i64 k ∧ ∃ m, LSt w wr s r m) (fun i _ => q - (intOf i).toNat)
    case atStart => exact ⟨0, Nat.zero_le _, rfl, _, HS.out⟩
    case round =>
      obtain ⟨k, hk, rfl, m, hst⟩ := hrel
      replace HS := Lib.hid hst
      clear hst
      by_cases hlt : k < q
      · have d1 : decide (k < n1) = true := decide_eq_true (by omega)
        have d2 : decide (k < 50) = true := decide_eq_true (by omega)
        have d3 : decide ((k : Int) < 50) = true := decide_eq_true (by omega)
        have hkn : k < n1 := by omega
        obtain ⟨g, off, rfl, hgl, e0, e1, e2, e3, e4, e5, e6⟩ := (HR.out.below HS.out.stays).at_ k hkn
        obtain ⟨t, ht⟩ : ∃ t, T1 k = t := ⟨_, rfl⟩
        have HD := Lib.hid (HR.out.each k hkn)
        rw [ht] at e0 e1 e2 e3 e4 e5 e6 HD
        clear ht hgl
        have g0 : (0 : Int) ≤ (k : Int) := by omega
        have g1 : (k : Int) < (n1 : Int) := by omega
        go_wp2_with (go_at_call 12; (with_reducible refine (does_law HS.out HD.out).mono ?_); rintro e w3 ⟨rfl, hst⟩; replace HS := Lib.hid hst; clear hst)
        go_roundw
        case rel => exact ⟨k + 1, by omega, by go_num, _, HS.out⟩
        case measure => simp [intOf]; omega
      · have hkn : k = q := by omega
        rcases Nat.lt_or_ge k n1 with z | z
        · have d1 : decide (k < n1) = true := decide_eq_true z
          have hk50 : k = 50 := by have := HQ.out; omega
          have d2 : decide (k < 50) = false := decide_eq_false (by omega)
          have d3 : decide ((k : Int) < 50) = false := decide_eq_false (by omega)
          clear hlt hk50 hkn
          go_wp2_with (first | (go_at_call 26; (with_reducible refine (like_law HS.out).mono ?_); rintro e w4 ⟨rfl, hst⟩; replace HS := Lib.hid hst; clear hst) | (go_at_call 22; (with_reducible refine (lives_any _).mono ?_); rintro e w5 ⟨rfl, hb5⟩))
          go_ret
          exact ⟨ret_bool (by simp), HS.out.stays.trans (hb5.mono HS.out.stays.size)⟩
        · have d1 : decide (k < n1) = false := decide_eq_false (by omega)
          clear hlt hkn
          go_wp2_with (first | (go_at_call 26; (with_reducible refine (like_law HS.out).mono ?_); rintro e w4 ⟨rfl, hst⟩; replace HS := Lib.hid hst; clear hst) | (go_at_call 22; (with_reducible refine (lives_any _).mono ?_); rintro e w5 ⟨rfl, hb5⟩))
          go_ret
          exact ⟨ret_bool (by simp), HS.out.stays.trans (hb5.mono HS.out.stays.size)⟩
  · have HOK := Lib.hid hok
    clear hok
    go_enter Try.func5, Try.ntmps5
    go_wp2_with (first | (go_at_call 10; (with_reducible refine (pnew_any _ a0 HI0.out).mono ?_); rintro e w1 ⟨h, B1⟩; rw [if_neg HOK.out] at h; obtain rfl := h; have HB1 := Lib.hid B1; clear B1) | (go_at_call 11; (with_reducible refine (rnew_any _ a0 HI0.out).mono ?_); rintro e w2 ⟨h, B2⟩; rw [if_neg HOK.out] at h; obtain rfl := h; have HB2 := Lib.hid (HB1.out.trans (B2.mono HB1.out.size)); clear B2) | (go_at_call 22; (with_reducible refine (lives_any _).mono ?_); rintro e w5 ⟨rfl, hb5⟩))
    go_ret
    exact ⟨rfl, HB2.out.trans (hb5.mono HB2.out.size)⟩


/-! ### the row's step -/
set_option maxRecDepth 100000 in
theorem lifted (os : Os) (started : os.Started) (H : Type) (enc : TypeId × Value → H) :
    ReturnsInHanded {} Try.checked os 5 .any (Rows.heapPlaysSpec.pre6 enc Try.prog Try.f5 Rows.heapPlaysRow.domain false) (Rows.heapPlaysSpec.post enc Try.prog Try.f5 false true false false) := by
  refine returnsInHanded_of_change (C := Try.checked) own started (by kernel_rfl) Try.func5
    (ChangeSpec.witness6 (enc := enc) (C := Try.checked) false ⟨#[], #[.int .i64 0, .slice none 0 0], []⟩ 8 (by kernel_rfl) (by kernel_rfl) (by kernel_rfl) (by kernel_rfl)) ?_
  intro W base args ds gs before hval0 hW hcnd _
  have hval : ∀ (j : Nat) t v, Try.f5.params[j]? = some t → args[j]? = some v → Value.okWide Try.prog W .any base t v := hval0
  have hW' := hW
  obtain ⟨p, q, hA0, hV, rfl, hfz, hnd⟩ := hW
  have hA : DataW.TrodAll enc Try.prog W 0 (fun _ => true) true Try.f5.params.toList args.toList ds p := hA0
  rw [Try.params5] at hA hval
  obtain ⟨v0, vs0, d0, ds0, p0, q0, hargs, rfl, rfl, h0, r0⟩ := trodAll_cons hA
  obtain ⟨v1, vs1, d1, ds1, p1, q1, rfl, rfl, rfl, h1, r1⟩ := trodAll_cons r0
  obtain ⟨rfl, rfl, rfl⟩ := trodAll_nil r1
  obtain rfl : args = #[v0, v1] := by cases args; simp_all
  obtain ⟨rfl, rfl⟩ := trodVars_none hV
  obtain ⟨a0, rfl, rfl, rfl, w0⟩ := open_int Try.underlying3 (hval 0 3 v0 rfl rfl) h0
  have k1 := h1
  have lt1 : ∀ x ∈ p1, x.block < W.heap.size := by obtain ⟨m, hm⟩ := k1; exact DataW.trod_lt m _ _ _ hm
  obtain ⟨A1, n1, c1, C1, rfl, R1⟩ := open_deeds (hval 1 22 v1 rfl rfl) h1
  clear hA0 hval0
  refine (walk W _ (bounds_i64 w0) _ _ _ _ R1).mono fun e W' ⟨he, bel⟩ => ?_
  subst he
  exact ⟨_, rfl, _, _, _, [], _, [], hW', trodAll_mk1 (shut_bool Try.underlying4 _), (trodAll_cons_mk (shut_int Try.underlying3 w0) (trodAll_cons_mk (Below.trod laidOut (by kernel_rfl) (of_decide_eq_true (by kernel_rfl)) k1 bel lt1) trodAll_mk0)), rfl, bel.frame _, fun h => by cases h⟩

theorem over : Rows.heapPlaysRow.holds Try.pinned (OpenSpec.ofChange Rows.heapPlaysSpec) :=
  OpenClaim.holds_of_wide 5 Try.f5 rfl rfl rfl rfl rfl rfl rfl ⟨rfl, rfl, rfl, rfl, rfl⟩ rfl rfl rfl rfl rfl (by kernel_rfl) Try.func5 (by kernel_rfl)
    (of_decide_eq_true (by kernel_rfl)) (by unfold Func.isWrapper; first | (rw [if_pos (by decide +kernel)]; kernel_rfl) | (rw [if_neg (by decide +kernel)]; exact ⟨rfl, rfl⟩))
    (fun os started H enc _ => lifted os started H enc)

theorem proved : Rows.HeapPlaysSaid := over
end Go.Proofs.Ytpifodfckjphiaa.heapPlays

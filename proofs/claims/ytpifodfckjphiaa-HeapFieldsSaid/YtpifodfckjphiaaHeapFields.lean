/- The law HeapFields of chapter 02 holds for every input: it returns true, and its arguments stay. No conditions. -/
import Derived.Test.YtpifodfckjphiaaRows
import Derived.Test.YtpifodfckjphiaaLY
import Derived.Test.YtpifodfckjphiaaLW2
import Derived.Deep.RegionHeld3
import Derived.Deep.RegionWith
import Derived.StillTailTactics
import Derived.Deep.CutBlock
import Derived.WalkKit
import Derived.ProofKit
import Derived.OpenShut
import Derived.ChangeOld
import Derived.Below
namespace Go.Proofs.Ytpifodfckjphiaa.heapFields
open Go.ChangeShapes Go.WideShapes Go.ChangeAt Go.RowKit Go.Deep Go.Joins Go.Maps
set_option linter.unusedVariables false
set_option linter.unusedSimpArgs false

theorem own : ownKnob Try.prog.godebug = none := by kernel_rfl
theorem laidOut : laidOutB Try.prog = true := by kernel_rfl

set_option maxRecDepth 100000 in
set_option maxHeartbeats 40000000 in
theorem walk (w : World) (A0 : Option Addr) (n0 c0 : Nat) (T0 : Nat → DeedT) (R0 : RawD w A0 n0 c0 T0) (a1 : Int) (r1_ : InI a1) (a2 : Int) (r2_ : InI a2) (a3 : Int) (r3_ : InI a3) :
    Calls Try.prog 6 #[.slice A0 n0 c0, .int .i64 a1, .int .i64 a2, .int .i64 a3] w fun e w' => e = .returned (.bool true) ∧ Below w.heap.size w w' := by
  have HR := Lib.hid R0
  have hcap : n0 ≤ 9223372036854775807 := Nat.le_trans R0.le R0.cap
  clear R0
  have HI1 := Lib.hid r1_
  clear r1_
  have HI2 := Lib.hid r2_
  clear r2_
  have HI3 := Lib.hid r3_
  clear r3_
  obtain ⟨q, hq⟩ : ∃ q, min n0 30 = q := ⟨_, rfl⟩
  have hq50 : q ≤ 30 := by omega
  have hqn : q ≤ n0 := by omega
  have HQ := Lib.hid hq
  clear hq
  go_enter Try.func6, Try.ntmps6
  go_upto_block 0 with (first | (go_at_call 10; (with_reducible refine (pnew_any _ 600 (inI_of (by decide) (by decide))).mono ?_); rintro e w1 ⟨h, B1⟩; rw [if_pos (show okN 600 = true from rfl)] at h; obtain ⟨s, bw, bm, rfl, qs, P1⟩ := h; have HP1 := Lib.hid P1; have HQ1 := Lib.hid qs; have HB1 := Lib.hid B1; clear P1 qs B1) | (go_at_call 11; (with_reducible refine (new_r (inI_of (by decide) (by decide)) (show okN 600 = true from rfl) HP1.out HQ1.out HB1.out).mono ?_); rintro e w2 ⟨r, rfl, hst⟩; have HS := Lib.hid hst; clear hst))
  go_cut [] (fun wx => ∃ m, LSt w wx s r m)
  case first =>
    go_wp2_with fail
    go_loopw [11] (fun i wr => ∃ k : Nat, k ≤ q ∧ i = .int .i64 k ∧ ∃ m, LSt w wr s r m) (fun i _ => q - (intOf i).toNat)
    case atStart => exact ⟨0, Nat.zero_le _, rfl, _, HS.out⟩
    case round =>
      obtain ⟨k, hk, rfl, m, hst⟩ := hrel
      replace HS := Lib.hid hst
      clear hst
      by_cases hlt : k < q
      · have d1 : decide (k < n0) = true := decide_eq_true (by omega)
        have d2 : decide (k < 30) = true := decide_eq_true (by omega)
        have d3 : decide ((k : Int) < 30) = true := decide_eq_true (by omega)
        have hkn : k < n0 := by omega
        obtain ⟨g, off, rfl, hgl, e0, e1, e2, e3, e4, e5, e6⟩ := (HR.out.below HS.out.stays).at_ k hkn
        obtain ⟨t, ht⟩ : ∃ t, T0 k = t := ⟨_, rfl⟩
        have HD := Lib.hid (HR.out.each k hkn)
        rw [ht] at e0 e1 e2 e3 e4 e5 e6 HD
        clear ht hgl
        have g0 : (0 : Int) ≤ (k : Int) := by omega
        have g1 : (k : Int) < (n0 : Int) := by omega
        go_wp2_with (go_at_call 12; (with_reducible refine (does_law HS.out HD.out).mono ?_); rintro e w3 ⟨rfl, hst⟩; replace HS := Lib.hid hst; clear hst)
        go_roundw
        case rel => exact ⟨k + 1, by omega, by go_num, _, HS.out⟩
        case measure => simp [intOf]; omega
      · have hkn : k = q := by omega
        rcases Nat.lt_or_ge k n0 with z | z
        · have d1 : decide (k < n0) = true := decide_eq_true z
          have hk50 : k = 30 := by have := HQ.out; omega
          have d2 : decide (k < 30) = false := decide_eq_false (by omega)
          have d3 : decide ((k : Int) < 30) = false := decide_eq_false (by omega)
          clear hlt hk50 hkn
          go_wp2_with fail
          go_meet
          exact ⟨_, HS.out⟩
        · have d1 : decide (k < n0) = false := decide_eq_false (by omega)
          clear hlt hkn
          go_wp2_with fail
          go_meet
          exact ⟨_, HS.out⟩
  case rest =>
    obtain ⟨m, hst⟩ := hcut
    replace HS := Lib.hid hst
    have HG := Lib.hid hst.lg
    have HSO := Lib.hid hst.sound
    clear hst
    obtain ⟨pn, hpn⟩ : ∃ pn, (ptrs m.L).length = pn := ⟨_, rfl⟩
    have HPN := Lib.hid hpn
    have HPL : Hid ((ptrs m.L).length ≤ 1000000) := Lib.hid (by have := len_bd HG.out.goodp; simp [ptrs]; omega)
    have HPI : Hid (∀ x, x ∈ ptrs m.L → InI x) := Lib.hid (ptrs_in HG.out.goodp)
    clear hpn HS
    obtain ⟨u, hu⟩ : ∃ u, wordV (ptrs m.L) a1 = u := ⟨_, rfl⟩
    have HU := Lib.hid hu
    obtain ⟨x, hx⟩ : ∃ x, wordV (ptrs m.L) a3 = x := ⟨_, rfl⟩
    have HX := Lib.hid hx
    have HXI : Hid (InI x) := Lib.hid (by rw [← hx]; exact wordV_in HPI.out HI3.out)
    obtain ⟨mm, er, hm⟩ : ∃ mm er, putV m u a2 x = (mm, er) := ⟨_, _, rfl⟩
    have HM := Lib.hid hm
    by_cases he : er = 0
    · have HGT : Hid (getV mm.L u a2 = (x, 0)) := Lib.hid (by have := put_get (m := m) (a := u) (i := a2) (x := x) (by rw [hm]; exact he); rw [hm] at this; exact this)
      have d0 : (er == 0) = true := by simpa using he
      clear hu hx hm he
      go_wp2_with (first | (go_at_call 23; (with_reducible refine (g_objects HG.out HPN.out).mono ?_); rintro e w4 ⟨A4, c4, rfl, hv4, hn4, hb4, hst⟩; have HNA := Lib.hid hn4; have HIA := Lib.hid hv4; replace HG := Lib.hid hst; clear hst hv4 hn4 hb4) | (go_at_call_of 27 (Value.int .i64 a1); (with_reducible refine (word_any' HNA.out HPN.out HPL.out a1 HI1.out).mono ?_); rw [HU.out]; rintro e w6 ⟨rfl, hw6⟩; replace hw6 := hw6.symm; subst hw6) | (go_at_call_of 27 (Value.int .i64 a3); (with_reducible refine (word_any' HNA.out HPN.out HPL.out a3 HI3.out).mono ?_); rw [HX.out]; rintro e w6 ⟨rfl, hw6⟩; replace hw6 := hw6.symm; subst hw6) | (go_at_call 28; (with_reducible refine (g_put HG.out u a2 x HI2.out HXI.out).mono ?_); rw [HM.out]; rintro e w7 ⟨rfl, hst, _⟩; replace HG := Lib.hid hst; clear hst) | (go_at_call 29; (with_reducible refine (g_rput HG.out u a2 x HI2.out HXI.out).mono ?_); rw [HM.out]; rintro e w7 ⟨rfl, hst, _⟩; replace HG := Lib.hid hst; clear hst) | (go_at_call 24; (with_reducible refine (g_get HG.out u a2 HI2.out).mono ?_); rw [HGT.out]; rintro e w7 ⟨rfl, hst, _⟩; replace HG := Lib.hid hst; clear hst) | (go_at_call 26; (with_reducible refine (g_like HG.out).mono ?_); rintro e w8 ⟨rfl, hst, _⟩; replace HG := Lib.hid hst; clear hst) | (go_at_call 22; (with_reducible refine (lives_any _).mono ?_); rintro e w5 ⟨rfl, hb5⟩; replace HG := Lib.hid (HG.out.below hb5); clear hb5))
      go_ret
      exact ⟨ret_bool (by simp), HG.out.stays⟩
    · have HGM : Hid (mm = m) := Lib.hid (by have := put_err (m := m) (a := u) (i := a2) (x := x) (by rw [hm]; exact he); rw [hm] at this; exact this)
      have d0 : (er == 0) = false := by simpa using he
      clear hu hx hm he
      go_wp2_with (first | (go_at_call 23; (with_reducible refine (g_objects HG.out HPN.out).mono ?_); rintro e w4 ⟨A4, c4, rfl, hv4, hn4, hb4, hst⟩; have HNA := Lib.hid hn4; have HIA := Lib.hid hv4; replace HG := Lib.hid hst; clear hst hv4 hn4 hb4) | (go_at_call_of 27 (Value.int .i64 a1); (with_reducible refine (word_any' HNA.out HPN.out HPL.out a1 HI1.out).mono ?_); rw [HU.out]; rintro e w6 ⟨rfl, hw6⟩; replace hw6 := hw6.symm; subst hw6) | (go_at_call_of 27 (Value.int .i64 a3); (with_reducible refine (word_any' HNA.out HPN.out HPL.out a3 HI3.out).mono ?_); rw [HX.out]; rintro e w6 ⟨rfl, hw6⟩; replace hw6 := hw6.symm; subst hw6) | (go_at_call 28; (with_reducible refine (g_put HG.out u a2 x HI2.out HXI.out).mono ?_); rw [HM.out]; rintro e w7 ⟨rfl, hst, _⟩; rw [HGM.out] at hst; replace HG := Lib.hid hst; clear hst) | (go_at_call 26; (with_reducible refine (g_like HG.out).mono ?_); rintro e w8 ⟨rfl, hst, _⟩; replace HG := Lib.hid hst; clear hst) | (go_at_call 22; (with_reducible refine (lives_any _).mono ?_); rintro e w5 ⟨rfl, hb5⟩; replace HG := Lib.hid (HG.out.below hb5); clear hb5))
      go_ret
      exact ⟨ret_bool (by simp), HG.out.stays⟩


/-! ### the row's step -/
set_option maxRecDepth 100000 in
theorem lifted (os : Os) (started : os.Started) (H : Type) (enc : TypeId × Value → H) :
    ReturnsInHanded {} Try.checked os 6 .any (Rows.heapFieldsSpec.pre6 enc Try.prog Try.f6 Rows.heapFieldsRow.domain false) (Rows.heapFieldsSpec.post enc Try.prog Try.f6 false true false false) := by
  refine returnsInHanded_of_change (C := Try.checked) own started (by kernel_rfl) Try.func6
    (ChangeSpec.witness6 (enc := enc) (C := Try.checked) false ⟨#[], #[.slice none 0 0, .int .i64 0, .int .i64 0, .int .i64 0], []⟩ 8 (by kernel_rfl) (by kernel_rfl) (by kernel_rfl) (by kernel_rfl)) ?_
  intro W base args ds gs before hval0 hW hcnd _
  have hval : ∀ (j : Nat) t v, Try.f6.params[j]? = some t → args[j]? = some v → Value.okWide Try.prog W .any base t v := hval0
  have hW' := hW
  obtain ⟨p, q, hA0, hV, rfl, hfz, hnd⟩ := hW
  have hA : DataW.TrodAll enc Try.prog W 0 (fun _ => true) true Try.f6.params.toList args.toList ds p := hA0
  rw [Try.params6] at hA hval
  obtain ⟨v0, vs0, d0, ds0, p0, q0, hargs, rfl, rfl, h0, r0⟩ := trodAll_cons hA
  obtain ⟨v1, vs1, d1, ds1, p1, q1, rfl, rfl, rfl, h1, r1⟩ := trodAll_cons r0
  obtain ⟨v2, vs2, d2, ds2, p2, q2, rfl, rfl, rfl, h2, r2⟩ := trodAll_cons r1
  obtain ⟨v3, vs3, d3, ds3, p3, q3, rfl, rfl, rfl, h3, r3⟩ := trodAll_cons r2
  obtain ⟨rfl, rfl, rfl⟩ := trodAll_nil r3
  obtain rfl : args = #[v0, v1, v2, v3] := by cases args; simp_all
  obtain ⟨rfl, rfl⟩ := trodVars_none hV
  have k0 := h0
  have lt0 : ∀ x ∈ p0, x.block < W.heap.size := by obtain ⟨m, hm⟩ := k0; exact DataW.trod_lt m _ _ _ hm
  obtain ⟨A0, n0, c0, C0, rfl, R0⟩ := open_deeds (hval 0 22 v0 rfl rfl) h0
  obtain ⟨a1, rfl, rfl, rfl, w1⟩ := open_int Try.underlying3 (hval 1 3 v1 rfl rfl) h1
  obtain ⟨a2, rfl, rfl, rfl, w2⟩ := open_int Try.underlying3 (hval 2 3 v2 rfl rfl) h2
  obtain ⟨a3, rfl, rfl, rfl, w3⟩ := open_int Try.underlying3 (hval 3 3 v3 rfl rfl) h3
  clear hA0 hval0
  refine (walk W _ _ _ _ R0 _ (bounds_i64 w1) _ (bounds_i64 w2) _ (bounds_i64 w3)).mono fun e W' ⟨he, bel⟩ => ?_
  subst he
  exact ⟨_, rfl, _, _, _, [], _, [], hW', trodAll_mk1 (shut_bool Try.underlying4 _), (trodAll_cons_mk (Below.trod laidOut (by kernel_rfl) (of_decide_eq_true (by kernel_rfl)) k0 bel lt0) (trodAll_cons_mk (shut_int Try.underlying3 w1) (trodAll_cons_mk (shut_int Try.underlying3 w2) (trodAll_cons_mk (shut_int Try.underlying3 w3) trodAll_mk0)))), rfl, bel.frame _, fun h => by cases h⟩

theorem over : Rows.heapFieldsRow.holds Try.pinned (OpenSpec.ofChange Rows.heapFieldsSpec) :=
  OpenClaim.holds_of_wide 6 Try.f6 rfl rfl rfl rfl rfl rfl rfl ⟨rfl, rfl, rfl, rfl, rfl⟩ rfl rfl rfl rfl rfl (by kernel_rfl) Try.func6 (by kernel_rfl)
    (of_decide_eq_true (by kernel_rfl)) (by unfold Func.isWrapper; first | (rw [if_pos (by decide +kernel)]; kernel_rfl) | (rw [if_neg (by decide +kernel)]; exact ⟨rfl, rfl⟩))
    (fun os started H enc _ => lifted os started H enc)

theorem proved : Rows.HeapFieldsSaid := over
end Go.Proofs.Ytpifodfckjphiaa.heapFields

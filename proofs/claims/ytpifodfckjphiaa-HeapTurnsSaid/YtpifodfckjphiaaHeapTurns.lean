/- The law HeapTurns of chapter 02 holds for every input: it returns true, and its arguments stay. No conditions. -/
import Derived.Test.YtpifodfckjphiaaRows
import Derived.Test.YtpifodfckjphiaaLY
import Derived.Test.YtpifodfckjphiaaLW2
import Derived.Deep.RegionHeld3
import Derived.Deep.RegionWith
import Derived.StillTailTactics
import Derived.Deep.CutBlock
import Derived.WalkKit
import Derived.ProofKit
import Derived.OpenShut
import Derived.ChangeOld
import Derived.Below
namespace Go.Proofs.Ytpifodfckjphiaa.heapTurns
open Go.ChangeShapes Go.WideShapes Go.ChangeAt Go.RowKit Go.Deep Go.Joins Go.Maps
set_option linter.unusedVariables false
set_option linter.unusedSimpArgs false

theorem own : ownKnob Try.prog.godebug = none := by kernel_rfl
theorem laidOut : laidOutB Try.prog = true := by kernel_rfl

set_option maxRecDepth 100000 in
set_option maxHeartbeats 40000000 in
theorem walk (w : World) (A0 : Option Addr) (n0 c0 : Nat) (T0 : Nat → DeedT) (R0 : RawD w A0 n0 c0 T0) (a1 : Int) (r1_ : InI a1) (a2 : Int) (r2_ : InI a2) :
    Calls Try.prog 7 #[.slice A0 n0 c0, .int .i64 a1, .int .i64 a2] w fun e w' => e = .returned (.bool true) ∧ Below w.heap.size w w' := by
  have HR := Lib.hid R0
  have hcap : n0 ≤ 9223372036854775807 := Nat.le_trans R0.le R0.cap
  clear R0
  have HI1 := Lib.hid r1_
  clear r1_
  have HI2 := Lib.hid r2_
  clear r2_
  obtain ⟨q, hq⟩ : ∃ q, min n0 30 = q := ⟨_, rfl⟩
  have hq50 : q ≤ 30 := by omega
  have hqn : q ≤ n0 := by omega
  have HQ := Lib.hid hq
  clear hq
  go_enter Try.func7, Try.ntmps7
  go_upto_block 0 with (first | (go_at_call 10; (with_reducible refine (pnew_any _ 600 (inI_of (by decide) (by decide))).mono ?_); rintro e w1 ⟨h, B1⟩; rw [if_pos (show okN 600 = true from rfl)] at h; obtain ⟨s, bw, bm, rfl, qs, P1⟩ := h; have HP1 := Lib.hid P1; have HQ1 := Lib.hid qs; have HB1 := Lib.hid B1; clear P1 qs B1) | (go_at_call 11; (with_reducible refine (new_r (inI_of (by decide) (by decide)) (show okN 600 = true from rfl) HP1.out HQ1.out HB1.out).mono ?_); rintro e w2 ⟨r, rfl, hst⟩; have HS := Lib.hid hst; clear hst))
  go_cut [] (fun wx => ∃ m, LSt w wx s r m)
  case first =>
    go_wp2_with fail
    go_loopw [9] (fun i wr => ∃ k : Nat, k ≤ q ∧ i = .int .i64 k ∧ ∃ m, LSt w wr s r m) (fun i _ => q - (intOf i).toNat)
    case atStart => exact ⟨0, Nat.zero_le _, rfl, _, HS.out⟩
    case round =>
      obtain ⟨k, hk, rfl, m, hst⟩ := hrel
      replace HS := Lib.hid hst
      clear hst
      by_cases hlt : k < q
      · have d1 : decide (k < n0) = true := decide_eq_true (by omega)
        have d2 : decide (k < 30) = true := decide_eq_true (by omega)
        have d3 : decide ((k : Int) < 30) = true := decide_eq_true (by omega)
        have hkn : k < n0 := by omega
        obtain ⟨g, off, rfl, hgl, e0, e1, e2, e3, e4, e5, e6⟩ := (HR.out.below HS.out.stays).at_ k hkn
        obtain ⟨t, ht⟩ : ∃ t, T0 k = t := ⟨_, rfl⟩
        have HD := Lib.hid (HR.out.each k hkn)
        rw [ht] at e0 e1 e2 e3 e4 e5 e6 HD
        clear ht hgl
        have g0 : (0 : Int) ≤ (k : Int) := by omega
        have g1 : (k : Int) < (n0 : Int) := by omega
        go_wp2_with (go_at_call 12; (with_reducible refine (does_law HS.out HD.out).mono ?_); rintro e w3 ⟨rfl, hst⟩; replace HS := Lib.hid hst; clear hst)
        go_roundw
        case rel => exact ⟨k + 1, by omega, by go_num, _, HS.out⟩
        case measure => simp [intOf]; omega
      · have hkn : k = q := by omega
        rcases Nat.lt_or_ge k n0 with z | z
        · have d1 : decide (k < n0) = true := decide_eq_true z
          have hk50 : k = 30 := by have := HQ.out; omega
          have d2 : decide (k < 30) = false := decide_eq_false (by omega)
          have d3 : decide ((k : Int) < 30) = false := decide_eq_false (by omega)
          clear hlt hk50 hkn
          go_wp2_with fail
          go_meet
          exact ⟨_, HS.out⟩
        · have d1 : decide (k < n0) = false := decide_eq_false (by omega)
          clear hlt hkn
          go_wp2_with fail
          go_meet
          exact ⟨_, HS.out⟩
  case rest =>
    obtain ⟨m, hst⟩ := hcut
    replace HS := Lib.hid hst
    have HG := Lib.hid hst.lg
    have HSO := Lib.hid hst.sound
    clear hst
    obtain ⟨pn, hpn⟩ : ∃ pn, (ptrs m.L).length = pn := ⟨_, rfl⟩
    have HPN := Lib.hid hpn
    have HPL : Hid ((ptrs m.L).length ≤ 1000000) := Lib.hid (by have := len_bd HG.out.goodp; simp [ptrs]; omega)
    have HPI : Hid (∀ x, x ∈ ptrs m.L → InI x) := Lib.hid (ptrs_in HG.out.goodp)
    clear hpn HS
    have hpc : pn ≤ 1000000 := by rw [← HPN.out]; exact HPL.out
    have hi1 := HI1.out.2
    have hi2 := HI2.out.2
    by_cases h0 : pn = 0
    · have d0 : (pn == 0) = true := by simpa using h0
      have e0 : ((pn : Int) == 0) = true := by simpa using h0
      clear hi1 hi2 hpc
      go_wp2_with (first | (go_at_call 23; (with_reducible refine (g_objects HG.out HPN.out).mono ?_); rintro e w4 ⟨A4, c4, rfl, hv4, hn4, hb4, hst⟩; have HNA := Lib.hid hn4; have HIA := Lib.hid hv4; replace HG := Lib.hid hst; clear hst hv4 hn4 hb4) | (go_at_call 22; (with_reducible refine (lives_any _).mono ?_); rintro e w5 ⟨rfl, hb5⟩; replace HG := Lib.hid (HG.out.below hb5); clear hb5))
      go_ret
      exact ⟨ret_bool (by simp), HG.out.stays⟩
    have d0 : (pn == 0) = false := by simpa using h0
    have e0 : ((pn : Int) == 0) = false := by simpa using h0
    by_cases h1 : a1 < 0
    · have d1 : decide (a1 < 0) = true := decide_eq_true h1
      clear hi1 hi2 hpc h0
      go_wp2_with (first | (go_at_call 23; (with_reducible refine (g_objects HG.out HPN.out).mono ?_); rintro e w4 ⟨A4, c4, rfl, hv4, hn4, hb4, hst⟩; have HNA := Lib.hid hn4; have HIA := Lib.hid hv4; replace HG := Lib.hid hst; clear hst hv4 hn4 hb4) | (go_at_call 22; (with_reducible refine (lives_any _).mono ?_); rintro e w5 ⟨rfl, hb5⟩; replace HG := Lib.hid (HG.out.below hb5); clear hb5))
      go_ret
      exact ⟨ret_bool (by simp), HG.out.stays⟩
    have d1 : decide (a1 < 0) = false := decide_eq_false h1
    by_cases h2 : a2 < 0
    · have d2 : decide (a2 < 0) = true := decide_eq_true h2
      clear hi1 hi2 hpc h0
      go_wp2_with (first | (go_at_call 23; (with_reducible refine (g_objects HG.out HPN.out).mono ?_); rintro e w4 ⟨A4, c4, rfl, hv4, hn4, hb4, hst⟩; have HNA := Lib.hid hn4; have HIA := Lib.hid hv4; replace HG := Lib.hid hst; clear hst hv4 hn4 hb4) | (go_at_call 22; (with_reducible refine (lives_any _).mono ?_); rintro e w5 ⟨rfl, hb5⟩; replace HG := Lib.hid (HG.out.below hb5); clear hb5))
      go_ret
      exact ⟨ret_bool (by simp), HG.out.stays⟩
    have d2 : decide (a2 < 0) = false := decide_eq_false h2
    obtain ⟨i1, rfl⟩ : ∃ i1 : Nat, a1 = (i1 : Int) := ⟨a1.toNat, by omega⟩
    obtain ⟨i2, rfl⟩ : ∃ i2 : Nat, a2 = (i2 : Int) := ⟨a2.toNat, by omega⟩
    obtain ⟨j1, hj1⟩ : ∃ j, i1 % pn = j := ⟨_, rfl⟩
    obtain ⟨j2, hj2⟩ : ∃ j, i2 % pn = j := ⟨_, rfl⟩
    have l1 : j1 < pn := by rw [← hj1]; exact Nat.mod_lt _ (by omega)
    have l2 : j2 < pn := by rw [← hj2]; exact Nat.mod_lt _ (by omega)
    have m1 : (i1 : Int).tmod (pn : Int) = (j1 : Int) := by rw [Int.tmod_eq_emod_of_nonneg (by omega), ← hj1]; simp
    have m2 : (i2 : Int).tmod (pn : Int) = (j2 : Int) := by rw [Int.tmod_eq_emod_of_nonneg (by omega), ← hj2]; simp
    have wm1 : IntKind.i64.wrap (j1 : Int) = (j1 : Int) := by rw [IntKind.wrap_i64]; omega
    have wm2 : IntKind.i64.wrap (j2 : Int) = (j2 : Int) := by rw [IntKind.wrap_i64]; omega
    have nz2 : ¬ ((pn : Int) = 0) := by omega
    have g0 : (0 : Int) ≤ (j1 : Int) := by omega
    have g1 : (j1 : Int) < (pn : Int) := by omega
    have g2 : (0 : Int) ≤ (j2 : Int) := by omega
    have g3 : (j2 : Int) < (pn : Int) := by omega
    have HL1 : Hid (j1 < (ptrs m.L).length) := Lib.hid (by rw [HPN.out]; exact l1)
    have HL2 : Hid (j2 < (ptrs m.L).length) := Lib.hid (by rw [HPN.out]; exact l2)
    obtain ⟨x, hx⟩ : ∃ x, (ptrs m.L)[j1]'HL1.out = x := ⟨_, rfl⟩
    obtain ⟨y, hy⟩ : ∃ y, (ptrs m.L)[j2]'HL2.out = y := ⟨_, rfl⟩
    have HX := Lib.hid hx
    have HY := Lib.hid hy
    have HXI : Hid (InI x) := Lib.hid (by rw [← hx]; exact HPI.out _ (List.getElem_mem _))
    have HYI : Hid (InI y) := Lib.hid (by rw [← hy]; exact HPI.out _ (List.getElem_mem _))
    have HXV : Hid (isV m.L x = true) := Lib.hid (by rw [← hx]; exact mem_ptrs.1 (List.getElem_mem _))
    have HYV : Hid (isV m.L y = true) := Lib.hid (by rw [← hy]; exact mem_ptrs.1 (List.getElem_mem _))
    clear hx hy hj1 hj2 h0 h1 h2 hi1 hi2
    go_upto_region 10 with (first | (go_at_call 23; (with_reducible refine (g_objects HG.out HPN.out).mono ?_); rintro e w4 ⟨A4, c4, rfl, hv4, hn4, hb4, hst⟩; have HNA := Lib.hid hn4; have HIA := Lib.hid hv4; replace HG := Lib.hid hst; clear hst hv4 hn4 hb4))
    obtain ⟨ag, aoff, rfl, _, ca1⟩ := HNA.out j1 HL1.out
    obtain ⟨ag', aoff', e', _, ca2⟩ := HNA.out j2 HL2.out
    obtain ⟨rfl, rfl⟩ : ag = ag' ∧ aoff = aoff' := by cases e'; exact ⟨rfl, rfl⟩
    rw [HX.out] at ca1
    rw [HY.out] at ca2
    clear e'
    by_cases hxy : x = y
    · have d3 : (x == y) = true := by simpa using hxy
      have HT1 : Hid (turnV m [x, y] [y, x] = (m, 1)) := Lib.hid (by rw [hxy]; exact turn_same)
      clear hxy
      go_wp2_with (first | (go_at_call 30; (with_reducible refine (g_turn2 HG.out x y HXI.out HYI.out).mono ?_); rw [HT1.out]; rintro e w7 ⟨rfl, hst⟩; replace HG := Lib.hid hst; clear hst) | (go_at_call 26; (with_reducible refine (g_like HG.out).mono ?_); rintro e w8 ⟨rfl, hst, _⟩; replace HG := Lib.hid hst; clear hst) | (go_at_call 22; (with_reducible refine (lives_any _).mono ?_); rintro e w5 ⟨rfl, hb5⟩; replace HG := Lib.hid (HG.out.below hb5); clear hb5))
      go_ret
      exact ⟨ret_bool (by simp), HG.out.stays⟩
    · have d3 : (x == y) = false := by simpa using hxy
      obtain ⟨tb1, tb2⟩ := turn_back HXV.out HYV.out hxy
      obtain ⟨mm, er, hm⟩ : ∃ mm er, turnV m [x, y] [y, x] = (mm, er) := ⟨_, _, rfl⟩
      rw [hm] at tb1 tb2
      obtain rfl : er = 0 := tb1
      have HT1 := Lib.hid hm
      have HT2 : Hid (turnV mm [x, y] [y, x] = (m, 0)) := Lib.hid tb2
      clear hxy tb2 hm
      go_wp2_with (first | (go_at_call 30; (with_reducible refine (g_turn2 HG.out x y HXI.out HYI.out).mono ?_); rw [HT1.out]; rintro e w7 ⟨rfl, hst⟩; replace HG := Lib.hid hst; clear hst) | (go_at_call 30; (with_reducible refine (g_turn2 HG.out x y HXI.out HYI.out).mono ?_); rw [HT2.out]; rintro e w7 ⟨rfl, hst⟩; replace HG := Lib.hid hst; clear hst) | (go_at_call 26; (with_reducible refine (g_like HG.out).mono ?_); rintro e w8 ⟨rfl, hst, _⟩; replace HG := Lib.hid hst; clear hst) | (go_at_call 22; (with_reducible refine (lives_any _).mono ?_); rintro e w5 ⟨rfl, hb5⟩; replace HG := Lib.hid (HG.out.below hb5); clear hb5))
      go_ret
      exact ⟨ret_bool (by simp), HG.out.stays⟩


/-! ### the row's step -/
set_option maxRecDepth 100000 in
theorem lifted (os : Os) (started : os.Started) (H : Type) (enc : TypeId × Value → H) :
    ReturnsInHanded {} Try.checked os 7 .any (Rows.heapTurnsSpec.pre6 enc Try.prog Try.f7 Rows.heapTurnsRow.domain false) (Rows.heapTurnsSpec.post enc Try.prog Try.f7 false true false false) := by
  refine returnsInHanded_of_change (C := Try.checked) own started (by kernel_rfl) Try.func7
    (ChangeSpec.witness6 (enc := enc) (C := Try.checked) false ⟨#[], #[.slice none 0 0, .int .i64 0, .int .i64 0], []⟩ 8 (by kernel_rfl) (by kernel_rfl) (by kernel_rfl) (by kernel_rfl)) ?_
  intro W base args ds gs before hval0 hW hcnd _
  have hval : ∀ (j : Nat) t v, Try.f7.params[j]? = some t → args[j]? = some v → Value.okWide Try.prog W .any base t v := hval0
  have hW' := hW
  obtain ⟨p, q, hA0, hV, rfl, hfz, hnd⟩ := hW
  have hA : DataW.TrodAll enc Try.prog W 0 (fun _ => true) true Try.f7.params.toList args.toList ds p := hA0
  rw [Try.params7] at hA hval
  obtain ⟨v0, vs0, d0, ds0, p0, q0, hargs, rfl, rfl, h0, r0⟩ := trodAll_cons hA
  obtain ⟨v1, vs1, d1, ds1, p1, q1, rfl, rfl, rfl, h1, r1⟩ := trodAll_cons r0
  obtain ⟨v2, vs2, d2, ds2, p2, q2, rfl, rfl, rfl, h2, r2⟩ := trodAll_cons r1
  obtain ⟨rfl, rfl, rfl⟩ := trodAll_nil r2
  obtain rfl : args = #[v0, v1, v2] := by cases args; simp_all
  obtain ⟨rfl, rfl⟩ := trodVars_none hV
  have k0 := h0
  have lt0 : ∀ x ∈ p0, x.block < W.heap.size := by obtain ⟨m, hm⟩ := k0; exact DataW.trod_lt m _ _ _ hm
  obtain ⟨A0, n0, c0, C0, rfl, R0⟩ := open_deeds (hval 0 22 v0 rfl rfl) h0
  obtain ⟨a1, rfl, rfl, rfl, w1⟩ := open_int Try.underlying3 (hval 1 3 v1 rfl rfl) h1
  obtain ⟨a2, rfl, rfl, rfl, w2⟩ := open_int Try.underlying3 (hval 2 3 v2 rfl rfl) h2
  clear hA0 hval0
  refine (walk W _ _ _ _ R0 _ (bounds_i64 w1) _ (bounds_i64 w2)).mono fun e W' ⟨he, bel⟩ => ?_
  subst he
  exact ⟨_, rfl, _, _, _, [], _, [], hW', trodAll_mk1 (shut_bool Try.underlying4 _), (trodAll_cons_mk (Below.trod laidOut (by kernel_rfl) (of_decide_eq_true (by kernel_rfl)) k0 bel lt0) (trodAll_cons_mk (shut_int Try.underlying3 w1) (trodAll_cons_mk (shut_int Try.underlying3 w2) trodAll_mk0))), rfl, bel.frame _, fun h => by cases h⟩

theorem over : Rows.heapTurnsRow.holds Try.pinned (OpenSpec.ofChange Rows.heapTurnsSpec) :=
  OpenClaim.holds_of_wide 7 Try.f7 rfl rfl rfl rfl rfl rfl rfl ⟨rfl, rfl, rfl, rfl, rfl⟩ rfl rfl rfl rfl rfl (by kernel_rfl) Try.func7 (by kernel_rfl)
    (of_decide_eq_true (by kernel_rfl)) (by unfold Func.isWrapper; first | (rw [if_pos (by decide +kernel)]; kernel_rfl) | (rw [if_neg (by decide +kernel)]; exact ⟨rfl, rfl⟩))
    (fun os started H enc _ => lifted os started H enc)

theorem proved : Rows.HeapTurnsSaid := over
end Go.Proofs.Ytpifodfckjphiaa.heapTurns

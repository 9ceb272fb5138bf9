/- The law LexTokens of chapter 06 holds for every input: it returns true, and its arguments stay. No conditions. -/
import Derived.Test.YtdcibeagljeioaaRows
import Derived.Test.YtdcibeagljeioaaS3
import Derived.WalkKit
import Derived.ProofKit
import Derived.OpenShut
import Derived.ShutString
import Derived.ChangeOld
import Derived.ChangeMaps5
import Derived.Below
namespace Go.Proofs.Ytdcibeagljeioaa.lexTokens
open Go.ChangeShapes Go.WideShapes Go.ChangeAt Go.RowKit
set_option linter.unusedVariables false
set_option linter.unusedSimpArgs false

theorem own : ownKnob Try.prog.godebug = none := by kernel_rfl
theorem laidOut : laidOutB Try.prog = true := by kernel_rfl

set_option maxRecDepth 100000 in
set_option maxHeartbeats 40000000 in
theorem walk (w : World) (s0 : ByteArray) (z0 : s0.size ≤ 9223372036854775807) :
    Calls Try.prog 3 #[.string s0] w fun e w' => e = .returned (.bool true) ∧ Below w.heap.size w w' := by
  have zf := few_le s0
  obtain ⟨s, hs⟩ : ∃ s, fewB s0 = s := ⟨_, rfl⟩
  have HS := Lib.hid hs
  rw [hs] at zf
  clear hs
  obtain ⟨⟨A, n, x⟩, hT⟩ : ∃ t, outV s = t := ⟨_, rfl⟩
  have HT := Lib.hid hT
  clear hT
  have zs : s.size ≤ 9223372036854775807 := by omega
  have FEW := few_any s0 w z0
  rw [HS.out] at FEW
  go_enter Try.func3, Try.ntmps3
  go_wp2_with fail
  (with_reducible refine FEW.mono ?_)
  rintro e w' ⟨rfl, hw'⟩
  replace hw' := hw'.symm
  subst hw'
  clear FEW
  go_wp2_with fail
  (with_reducible refine (all_tok _ HT.out zs).mono ?_)
  rintro e w1 ⟨p1, c1, rfl, hr1, hl, hb1⟩
  have h1 := hb1.size
  have H1 := Lib.hid hr1
  clear hr1
  go_wp2_with fail
  (with_reducible refine (all_rtok _ HT.out zs).mono ?_)
  rintro e w2 ⟨p2, c2, rfl, hr2, _, hb2⟩
  have h2 := hb2.size
  have H2 := Lib.hid hr2
  have B2 := hb1.trans (hb2.mono h1)
  clear hr2
  go_wp2_with fail
  (with_reducible refine (same_any (H1.out.below hb2) H2.out hl (Below.refl _ _)).mono ?_)
  rintro e w3 ⟨rfl, hb3⟩
  have h3 := hb3.size
  have B3 := B2.trans (hb3.mono (by omega))
  clear hb1 hb2 hb3
  go_wp2_with (go_at_call 13; (with_reducible refine (lives_any _).mono ?_); rintro e w4 ⟨rfl, hb4⟩)
  go_ret
  exact ⟨rfl, B3.trans (hb4.mono (by omega))⟩

/-! ### the row's step -/
set_option maxRecDepth 100000 in
theorem lifted (os : Os) (started : os.Started) (H : Type) (enc : TypeId × Value → H) :
    ReturnsInHanded {} Try.checked os 3 .any (Rows.lexTokensSpec.pre6 enc Try.prog Try.f3 Rows.lexTokensRow.domain false) (Rows.lexTokensSpec.post enc Try.prog Try.f3 false true false false) := by
  refine returnsInHanded_of_change (C := Try.checked) own started (by kernel_rfl) Try.func3
    (ChangeSpec.witness6 (enc := enc) (C := Try.checked) false ⟨#[], #[.string ⟨#[]⟩], []⟩ 8 (by kernel_rfl) (by kernel_rfl) (by kernel_rfl) (by kernel_rfl)) ?_
  intro W base args ds gs before hval0 hW hcnd _
  have hval : ∀ (j : Nat) t v, Try.f3.params[j]? = some t → args[j]? = some v → Value.okWide Try.prog W .any base t v := hval0
  have hW' := hW
  obtain ⟨p, q, hA0, hV, rfl, hfz, hnd⟩ := hW
  have hA : DataW.TrodAll enc Try.prog W 0 (fun _ => true) true Try.f3.params.toList args.toList ds p := hA0
  rw [Try.params3] at hA hval
  obtain ⟨v0, vs0, d0, ds0, p0, q0, hargs, rfl, rfl, h0, r0⟩ := trodAll_cons hA
  obtain ⟨rfl, rfl, rfl⟩ := trodAll_nil r0
  obtain rfl : args = #[v0] := by cases args; simp_all
  obtain ⟨rfl, rfl⟩ := trodVars_none hV
  obtain ⟨s0, rfl, rfl, rfl, z0⟩ := Go.ChangeMaps.open_string Try.underlying9 (hval 0 9 v0 rfl rfl) h0
  clear hA0 hval0
  refine (walk W _ (by have := z0; unfold maxLen at this; exact this)).mono fun e W' ⟨he, bel⟩ => ?_
  subst he
  exact ⟨_, rfl, _, _, _, [], _, [], hW', trodAll_mk1 (shut_bool Try.underlying4 _), (trodAll_cons_mk (Go.ChangeMaps.shut_string Try.underlying9 z0) trodAll_mk0), rfl, bel.frame _, fun h => by cases h⟩

theorem over : Rows.lexTokensRow.holds Try.pinned (OpenSpec.ofChange Rows.lexTokensSpec) :=
  OpenClaim.holds_of_wide 3 Try.f3 rfl rfl rfl rfl rfl rfl rfl ⟨rfl, rfl, rfl, rfl, rfl⟩ rfl rfl rfl rfl rfl (by kernel_rfl) Try.func3 (by kernel_rfl)
    (of_decide_eq_true (by kernel_rfl)) (by unfold Func.isWrapper; first | (rw [if_pos (by decide +kernel)]; kernel_rfl) | (rw [if_neg (by decide +kernel)]; exact ⟨rfl, rfl⟩))
    (fun os started H enc _ => lifted os started H enc)

theorem proved : Rows.LexTokensSaid := over
end Go.Proofs.Ytdcibeagljeioaa.lexTokens

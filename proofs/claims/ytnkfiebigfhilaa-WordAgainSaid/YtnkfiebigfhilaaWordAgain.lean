/- The law WordAgain of chapter 1 holds for every input: it returns true, and its arguments stay. No conditions. -/
import Derived.Test.YtnkfiebigfhilaaRows
import Derived.Test.YtnkfiebigfhilaaWalks3
import Derived.ProofKit
import Derived.OpenShut
namespace Go.Proofs.Ytnkfiebigfhilaa.wordAgain
open Go.ChangeShapes Go.WideShapes Go.ChangeAt Go.RowKit
set_option linter.unusedVariables false      -- a walk need not use every 'w<i>' (that an integer argument fits its kind)

theorem own : ownKnob Try.prog.godebug = none := by kernel_rfl

/-! ### STEP 1: THE WALK: the Go text returns true. 'Grown w w'': the world has at most new blocks (Derived/RowKit3.lean). Part the cases AHEAD of 'go_enter' where a test parts the walk; take each callee by a contract of your own. -/
theorem walk (a0 : Int) (a1 : Int) (w0 : (Lit.int .i64 a0).wf = true) (w1 : (Lit.int .i64 a1).wf = true) (w : World) :
    Calls Try.prog 7 #[.int .i64 a0, .int .i64 a1] w fun e w' => e = .returned (.bool true) ∧ Grown w w' := by
  have C : Hid (mulV a1 a0 = mulV a0 a1) := by show mulV a1 a0 = _; unfold mulV; rw [Int.mul_comm, Bool.and_comm]
  rcases Bool.eq_false_or_eq_true (num a0 && num a1 && num (a0 + a1)) with h | h
  · have A : Hid (addV a0 a1 = (a0 + a1, 0)) := by show addV a0 a1 = _; simp_all [addV, told]
    have B : Hid (subV (a0 + a1) a1 = (a0, 0)) := by
      show subV _ _ = _
      have : a0 + a1 - a1 = a0 := by omega
      simp_all [subV, told]
    clear h
    go_enter Try.func7, Try.ntmps7
    go_wp2_with (first | (go_at_call 15; (with_reducible refine (add_any _ _ _).mono ?_); rw [A.out]; rintro e w' ⟨rfl, rfl⟩) | (go_at_call 18; (with_reducible refine (sub_any _ _ _).mono ?_); rw [B.out]; rintro e w' ⟨rfl, rfl⟩) | (go_at_call 16; (with_reducible refine (mul_any _ _ _).mono ?_); (try rw [C.out]); rintro e w' ⟨rfl, hm⟩) | (go_at_call 14; (with_reducible refine (lives_any _).mono ?_); rintro e w' ⟨rfl, hg⟩))
    go_ret
    exact ⟨rfl, by repeat (first | (with_reducible exact Grown.refl _) | (with_reducible assumption) | (with_reducible refine Grown.drewN ?_ _) | (with_reducible refine Grown.trans ?_ (by with_reducible assumption)))⟩
  · have A : Hid (addV a0 a1 = (0, 2)) := by
      show addV a0 a1 = _
      unfold addV told
      cases ha : num a0 <;> cases hb : num a1 <;> simp_all
    have B := trivial
    clear h
    go_enter Try.func7, Try.ntmps7
    go_wp2_with (first | (go_at_call 15; (with_reducible refine (add_any _ _ _).mono ?_); rw [A.out]; rintro e w' ⟨rfl, rfl⟩) | (go_at_call 18; (with_reducible refine (sub_any _ _ _).mono ?_); fail; rintro e w' ⟨rfl, rfl⟩) | (go_at_call 16; (with_reducible refine (mul_any _ _ _).mono ?_); (try rw [C.out]); rintro e w' ⟨rfl, hm⟩) | (go_at_call 14; (with_reducible refine (lives_any _).mono ?_); rintro e w' ⟨rfl, hg⟩))
    go_ret
    exact ⟨rfl, by repeat (first | (with_reducible exact Grown.refl _) | (with_reducible assumption) | (with_reducible refine Grown.drewN ?_ _) | (with_reducible refine Grown.trans ?_ (by with_reducible assumption)))⟩

/-! ### THE ROW's STEP: WRITTEN OUT: LEAVE IT -/
set_option maxRecDepth 100000 in
theorem lifted (os : Os) (started : os.Started) (H : Type) (enc : TypeId × Value → H) :
    ReturnsInHanded {} Try.checked os 7 .any (Rows.wordAgainSpec.pre6 enc Try.prog Try.f7 Rows.wordAgainRow.domain false) (Rows.wordAgainSpec.post enc Try.prog Try.f7 false true false false) := by
  refine returnsInHanded_of_change (C := Try.checked) own started (by kernel_rfl) Try.func7
    (ChangeSpec.witness6 (enc := enc) (C := Try.checked) false ⟨#[], #[.int .i64 0, .int .i64 0], []⟩ 8 (by kernel_rfl) (by kernel_rfl) (by kernel_rfl) (by kernel_rfl)) ?_
  intro W base args ds gs before hval0 hW hcnd _
  have hval : ∀ (j : Nat) t v, Try.f7.params[j]? = some t → args[j]? = some v → Value.okWide Try.prog W .any base t v := hval0
  have hW' := hW
  obtain ⟨p, q, hA0, hV, rfl, hfz, hnd⟩ := hW
  have hA : DataW.TrodAll enc Try.prog W 0 (fun _ => true) true Try.f7.params.toList args.toList ds p := hA0
  rw [Try.params7] at hA hval
  obtain ⟨v0, vs0, d0, ds0, p0, q0, hargs, rfl, rfl, h0, r0⟩ := trodAll_cons hA
  obtain ⟨v1, vs1, d1, ds1, p1, q1, rfl, rfl, rfl, h1, r1⟩ := trodAll_cons r0
  obtain ⟨rfl, rfl, rfl⟩ := trodAll_nil r1
  obtain rfl : args = #[v0, v1] := by cases args; simp_all
  obtain ⟨rfl, rfl⟩ := trodVars_none hV
  obtain ⟨a0, rfl, rfl, rfl, w0⟩ := open_int Try.underlying3 (hval 0 3 v0 rfl rfl) h0
  obtain ⟨a1, rfl, rfl, rfl, w1⟩ := open_int Try.underlying3 (hval 1 3 v1 rfl rfl) h1
  clear hA0 hval0
  simp only [List.append_nil] at hW'
  refine (walk a0 a1 w0 w1 W).mono fun e W' ⟨he, hg⟩ => ?_
  subst he
  exact ⟨_, rfl, post_of_same (pa := []) (pv := []) hW' (fun _ _ _ => (trodAll_cons_mk (shut_bool Try.underlying4 _) trodAll_mk0)) (fun sp _ => (trodAll_cons_mk (shut_int Try.underlying3 w0) (trodAll_cons_mk (shut_int Try.underlying3 w1) trodAll_mk0))) (fun _ _ => rfl) rfl
    (hg.frame _) hg.2.1 (ok_one (by kernel_rfl) rfl (okWide_bool_mk Try.underlying4 _))⟩

theorem over : Rows.wordAgainRow.holds Try.pinned (OpenSpec.ofChange Rows.wordAgainSpec) :=
  OpenClaim.holds_of_wide 7 Try.f7 rfl rfl rfl rfl rfl rfl rfl ⟨rfl, rfl, rfl, rfl, rfl⟩ rfl rfl rfl rfl rfl (by kernel_rfl) Try.func7 (by kernel_rfl)
    (of_decide_eq_true (by kernel_rfl)) (by unfold Func.isWrapper; first | (rw [if_pos (by decide +kernel)]; kernel_rfl) | (rw [if_neg (by decide +kernel)]; exact ⟨rfl, rfl⟩))
    (fun os started H enc _ => lifted os started H enc)

theorem proved : Rows.WordAgainSaid :=
  over
end Go.Proofs.Ytnkfiebigfhilaa.wordAgain

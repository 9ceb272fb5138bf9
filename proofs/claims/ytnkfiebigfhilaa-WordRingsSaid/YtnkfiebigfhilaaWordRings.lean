/- The law WordRings of chapter 1 holds for every input: it returns true, and its arguments stay. No conditions. -/
import Derived.Test.YtnkfiebigfhilaaRows
import Derived.Test.YtnkfiebigfhilaaWalks3
import Derived.ProofKit
import Derived.OpenShut
namespace Go.Proofs.Ytnkfiebigfhilaa.wordRings
open Go.ChangeShapes Go.WideShapes Go.ChangeAt Go.RowKit
set_option linter.unusedVariables false      -- a walk need not use every 'w<i>' (that an integer argument fits its kind)

theorem own : ownKnob Try.prog.godebug = none := by kernel_rfl

/-! ### STEP 1: THE WALK: the Go text returns true. 'Grown w w'': the world has at most new blocks (Derived/RowKit3.lean). Part the cases AHEAD of 'go_enter' where a test parts the walk; take each callee by a contract of your own. -/
set_option maxHeartbeats 2000000 in
theorem walk (a0 : Int) (a1 : Int) (a2 : Int) (w0 : (Lit.int .i64 a0).wf = true) (w1 : (Lit.int .i64 a1).wf = true) (w2 : (Lit.int .i64 a2).wf = true) (w : World) :
    Calls Try.prog 5 #[.int .i64 a0, .int .i64 a1, .int .i64 a2] w fun e w' => e = .returned (.bool true) ∧ Grown w w' := by
  have C : addV a1 a0 = addV a0 a1 := by unfold addV; rw [Int.add_comm, Bool.and_comm]
  obtain ⟨x, e, A⟩ : ∃ y0 o0, addV a0 a1 = (y0, o0) := ⟨_, _, rfl⟩
  obtain ⟨p, g, P⟩ : ∃ y0 o0, addV x a2 = (y0, o0) := ⟨_, _, rfl⟩
  obtain ⟨q, h, Q⟩ : ∃ y0 o0, addV a1 a2 = (y0, o0) := ⟨_, _, rfl⟩
  obtain ⟨r, i, R⟩ : ∃ y0 o0, addV a0 q = (y0, o0) := ⟨_, _, rfl⟩
  obtain ⟨s, j, S⟩ : ∃ y0 o0, mulV x a2 = (y0, o0) := ⟨_, _, rfl⟩
  obtain ⟨t, k, T⟩ : ∃ y0 o0, mulV a0 a2 = (y0, o0) := ⟨_, _, rfl⟩
  obtain ⟨u, l, U⟩ : ∃ y0 o0, mulV a1 a2 = (y0, o0) := ⟨_, _, rfl⟩
  obtain ⟨v, m, V⟩ : ∃ y0 o0, addV t u = (y0, o0) := ⟨_, _, rfl⟩
  have L1 := Lib.hid (ring1 a0 a1 a2 x e p g q h r i A P Q R)
  have L2 := Lib.hid (ring2 a0 a1 a2 x e s j t k u l v m A S T U V)
  replace C : Hid (addV a1 a0 = (x, e)) := C.trans A
  replace A := Lib.hid A; replace P := Lib.hid P; replace Q := Lib.hid Q; replace R := Lib.hid R; replace S := Lib.hid S; replace T := Lib.hid T; replace U := Lib.hid U; replace V := Lib.hid V
  go_enter Try.func5, Try.ntmps5
  go_wp2_with (first | (go_at_call 15; (with_reducible refine (add_any _ _ _).mono ?_); (first | rw [C.out] | rw [A.out] | rw [P.out] | rw [Q.out] | rw [R.out] | rw [V.out]); rintro e w' ⟨rfl, rfl⟩) | (go_at_call 16; (with_reducible refine (mul_any _ _ _).mono ?_); (first | rw [S.out] | rw [T.out] | rw [U.out]); rintro e w' ⟨rfl, hm⟩) | (go_at_call 14; (with_reducible refine (lives_any _).mono ?_); rintro e w' ⟨rfl, hg⟩))
  all_goals first
    | (exfalso; have hne : (s != v) = true := by with_reducible assumption
       rw [L2.out (by with_reducible assumption) (by with_reducible assumption) (by with_reducible assumption) (by with_reducible assumption) (by with_reducible assumption)] at hne; simp at hne; done)
    | (exfalso; have hne : (p != r) = true := by with_reducible assumption
       rw [L1.out (by with_reducible assumption) (by with_reducible assumption) (by with_reducible assumption) (by with_reducible assumption)] at hne; simp at hne; done)
    | (go_ret; exact ⟨rfl, by repeat (first | (with_reducible exact Grown.refl _) | (with_reducible assumption) | (with_reducible refine Grown.drewN ?_ _) | (with_reducible refine Grown.trans ?_ (by with_reducible assumption)))⟩)

/-! ### THE ROW's STEP: WRITTEN OUT: LEAVE IT -/
set_option maxRecDepth 100000 in
theorem lifted (os : Os) (started : os.Started) (H : Type) (enc : TypeId × Value → H) :
    ReturnsInHanded {} Try.checked os 5 .any (Rows.wordRingsSpec.pre6 enc Try.prog Try.f5 Rows.wordRingsRow.domain false) (Rows.wordRingsSpec.post enc Try.prog Try.f5 false true false false) := by
  refine returnsInHanded_of_change (C := Try.checked) own started (by kernel_rfl) Try.func5
    (ChangeSpec.witness6 (enc := enc) (C := Try.checked) false ⟨#[], #[.int .i64 0, .int .i64 0, .int .i64 0], []⟩ 8 (by kernel_rfl) (by kernel_rfl) (by kernel_rfl) (by kernel_rfl)) ?_
  intro W base args ds gs before hval0 hW hcnd _
  have hval : ∀ (j : Nat) t v, Try.f5.params[j]? = some t → args[j]? = some v → Value.okWide Try.prog W .any base t v := hval0
  have hW' := hW
  obtain ⟨p, q, hA0, hV, rfl, hfz, hnd⟩ := hW
  have hA : DataW.TrodAll enc Try.prog W 0 (fun _ => true) true Try.f5.params.toList args.toList ds p := hA0
  rw [Try.params5] at hA hval
  obtain ⟨v0, vs0, d0, ds0, p0, q0, hargs, rfl, rfl, h0, r0⟩ := trodAll_cons hA
  obtain ⟨v1, vs1, d1, ds1, p1, q1, rfl, rfl, rfl, h1, r1⟩ := trodAll_cons r0
  obtain ⟨v2, vs2, d2, ds2, p2, q2, rfl, rfl, rfl, h2, r2⟩ := trodAll_cons r1
  obtain ⟨rfl, rfl, rfl⟩ := trodAll_nil r2
  obtain rfl : args = #[v0, v1, v2] := by cases args; simp_all
  obtain ⟨rfl, rfl⟩ := trodVars_none hV
  obtain ⟨a0, rfl, rfl, rfl, w0⟩ := open_int Try.underlying3 (hval 0 3 v0 rfl rfl) h0
  obtain ⟨a1, rfl, rfl, rfl, w1⟩ := open_int Try.underlying3 (hval 1 3 v1 rfl rfl) h1
  obtain ⟨a2, rfl, rfl, rfl, w2⟩ := open_int Try.underlying3 (hval 2 3 v2 rfl rfl) h2
  clear hA0 hval0
  simp only [List.append_nil] at hW'
  refine (walk a0 a1 a2 w0 w1 w2 W).mono fun e W' ⟨he, hg⟩ => ?_
  subst he
  exact ⟨_, rfl, post_of_same (pa := []) (pv := []) hW' (fun _ _ _ => (trodAll_cons_mk (shut_bool Try.underlying4 _) trodAll_mk0)) (fun sp _ => (trodAll_cons_mk (shut_int Try.underlying3 w0) (trodAll_cons_mk (shut_int Try.underlying3 w1) (trodAll_cons_mk (shut_int Try.underlying3 w2) trodAll_mk0)))) (fun _ _ => rfl) rfl
    (hg.frame _) hg.2.1 (ok_one (by kernel_rfl) rfl (okWide_bool_mk Try.underlying4 _))⟩

theorem over : Rows.wordRingsRow.holds Try.pinned (OpenSpec.ofChange Rows.wordRingsSpec) :=
  OpenClaim.holds_of_wide 5 Try.f5 rfl rfl rfl rfl rfl rfl rfl ⟨rfl, rfl, rfl, rfl, rfl⟩ rfl rfl rfl rfl rfl (by kernel_rfl) Try.func5 (by kernel_rfl)
    (of_decide_eq_true (by kernel_rfl)) (by unfold Func.isWrapper; first | (rw [if_pos (by decide +kernel)]; kernel_rfl) | (rw [if_neg (by decide +kernel)]; exact ⟨rfl, rfl⟩))
    (fun os started H enc _ => lifted os started H enc)

theorem proved : Rows.WordRingsSaid :=
  over
end Go.Proofs.Ytnkfiebigfhilaa.wordRings

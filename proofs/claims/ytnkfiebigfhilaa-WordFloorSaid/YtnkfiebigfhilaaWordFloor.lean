/- The law WordFloor of chapter 1 holds for every input: it returns true, and its arguments stay. No conditions. -/
import Derived.Test.YtnkfiebigfhilaaRows
import Derived.Test.YtnkfiebigfhilaaWalks3
import Derived.ProofKit
import Derived.OpenShut
namespace Go.Proofs.Ytnkfiebigfhilaa.wordFloor
open Go.ChangeShapes Go.WideShapes Go.ChangeAt Go.RowKit
set_option linter.unusedVariables false      -- a walk need not use every 'w<i>' (that an integer argument fits its kind)

theorem own : ownKnob Try.prog.godebug = none := by kernel_rfl

/-! ### STEP 1: THE WALK: the Go text returns true. 'Grown w w'': the world has at most new blocks (Derived/RowKit3.lean). Part the cases AHEAD of 'go_enter' where a test parts the walk; take each callee by a contract of your own. -/
theorem walk (a0 : Int) (a1 : Int) (w0 : (Lit.int .i64 a0).wf = true) (w1 : (Lit.int .i64 a1).wf = true) (w : World) :
    Calls Try.prog 4 #[.int .i64 a0, .int .i64 a1] w fun e w' => e = .returned (.bool true) ∧ Grown w w' := by
  rcases Bool.eq_false_or_eq_true (num a0 && num a1) with h | h
  · obtain ⟨ha, hb⟩ : num a0 = true ∧ num a1 = true := by simpa using h
    by_cases h0 : a1 = 0
    · subst h0
      have D : Hid (divV a0 0 = (0, 3)) := by show divV a0 0 = _; simp [divV, floorV, h]
      have M : Hid (modV a0 0 = (0, 3)) := by show modV a0 0 = _; simp [modV, floorV, h]
      clear h ha hb
      go_enter Try.func4, Try.ntmps4
      go_wp2_with (first | (go_at_call 10; (with_reducible refine (div_any _ _ _).mono ?_); rw [D.out]; rintro e w' ⟨rfl, n, rfl⟩) | (go_at_call 12; (with_reducible refine (mod_any _ _ _).mono ?_); rw [M.out]; rintro e w' ⟨rfl, n, rfl⟩) | (go_at_call 14; (with_reducible refine (lives_any _).mono ?_); rintro e w' ⟨rfl, hg⟩))
      go_ret
      exact ⟨rfl, by repeat (first | (with_reducible exact Grown.refl _) | (with_reducible assumption) | (with_reducible refine Grown.drewN ?_ _) | (with_reducible refine Grown.trans ?_ (by with_reducible assumption)))⟩
    · have D : Hid (divV a0 a1 = (Int.fdiv a0 a1, 0)) := by show divV a0 a1 = _; simp [divV, floorV, h, h0]
      have M : Hid (modV a0 a1 = (Int.fmod a0 a1, 0)) := by show modV a0 a1 = _; simp [modV, floorV, h, h0]
      obtain ⟨f1, f2⟩ := fmod_facts a0 a1 h0
      obtain ⟨m1, m2⟩ := mul_bd a0 a1 ha hb h0
      have E : Hid (a1 * Int.fdiv a0 a1 + Int.fmod a0 a1 = a0) := Int.mul_fdiv_add_fmod a0 a1
      obtain ⟨n1, n2⟩ := num_true ha
      obtain ⟨k1, k2⟩ := num_true hb
      obtain ⟨q, hq⟩ : ∃ q, Int.fdiv a0 a1 = q := ⟨_, rfl⟩
      obtain ⟨r, hr⟩ : ∃ r, Int.fmod a0 a1 = r := ⟨_, rfl⟩
      rw [hq, hr] at E
      rw [hq] at D m1 m2
      rw [hr] at M f1 f2
      rw [Int.mul_comm] at m1 m2
      have E' : Hid (q * a1 + r = a0) := by have := E.out; rw [Int.mul_comm] at this; exact this
      have e2 : -9223372036854775808 ≤ q * a1 + r := by have := E'.out; omega
      have e3 : q * a1 + r ≤ 9223372036854775807 := by have := E'.out; omega
      have e4 : (q * a1 + r == a0) = true := by rw [E'.out]; simp
      clear h ha hb hq hr E
      rcases Int.lt_or_lt_of_ne h0 with hs | hs
      · obtain ⟨r1, r2⟩ := f2 hs
        clear f1 f2
        have d2 : decide (a1 < 0) = true := decide_eq_true hs
        by_cases hr0 : r = 0
        · subst hr0
          have e5 : (q * a1 == a0) = true := by simpa using e4
          clear e2 e3 e4
          go_enter Try.func4, Try.ntmps4
          go_wp2_with (first | (go_at_call 10; (with_reducible refine (div_any _ _ _).mono ?_); rw [D.out]; rintro e w' ⟨rfl, n, rfl⟩) | (go_at_call 12; (with_reducible refine (mod_any _ _ _).mono ?_); rw [M.out]; rintro e w' ⟨rfl, n, rfl⟩) | (go_at_call 14; (with_reducible refine (lives_any _).mono ?_); rintro e w' ⟨rfl, hg⟩))
          go_ret
          exact ⟨rfl, by repeat (first | (with_reducible exact Grown.refl _) | (with_reducible assumption) | (with_reducible refine Grown.drewN ?_ _) | (with_reducible refine Grown.trans ?_ (by with_reducible assumption)))⟩
        · have d1 : decide (r < 0) = true := decide_eq_true (by omega)
          have d3 : (r != 0) = true := by simpa using hr0
          go_enter Try.func4, Try.ntmps4
          go_wp2_with (first | (go_at_call 10; (with_reducible refine (div_any _ _ _).mono ?_); rw [D.out]; rintro e w' ⟨rfl, n, rfl⟩) | (go_at_call 12; (with_reducible refine (mod_any _ _ _).mono ?_); rw [M.out]; rintro e w' ⟨rfl, n, rfl⟩) | (go_at_call 14; (with_reducible refine (lives_any _).mono ?_); rintro e w' ⟨rfl, hg⟩))
          go_ret
          exact ⟨rfl, by repeat (first | (with_reducible exact Grown.refl _) | (with_reducible assumption) | (with_reducible refine Grown.drewN ?_ _) | (with_reducible refine Grown.trans ?_ (by with_reducible assumption)))⟩
      · obtain ⟨r1, r2⟩ := f1 hs
        clear f1 f2
        have d2 : decide (a1 < 0) = false := decide_eq_false (by omega)
        by_cases hr0 : r = 0
        · subst hr0
          have e5 : (q * a1 == a0) = true := by simpa using e4
          clear e2 e3 e4
          go_enter Try.func4, Try.ntmps4
          go_wp2_with (first | (go_at_call 10; (with_reducible refine (div_any _ _ _).mono ?_); rw [D.out]; rintro e w' ⟨rfl, n, rfl⟩) | (go_at_call 12; (with_reducible refine (mod_any _ _ _).mono ?_); rw [M.out]; rintro e w' ⟨rfl, n, rfl⟩) | (go_at_call 14; (with_reducible refine (lives_any _).mono ?_); rintro e w' ⟨rfl, hg⟩))
          go_ret
          exact ⟨rfl, by repeat (first | (with_reducible exact Grown.refl _) | (with_reducible assumption) | (with_reducible refine Grown.drewN ?_ _) | (with_reducible refine Grown.trans ?_ (by with_reducible assumption)))⟩
        · have d1 : decide (r < 0) = false := decide_eq_false (by omega)
          have d3 : (r != 0) = true := by simpa using hr0
          go_enter Try.func4, Try.ntmps4
          go_wp2_with (first | (go_at_call 10; (with_reducible refine (div_any _ _ _).mono ?_); rw [D.out]; rintro e w' ⟨rfl, n, rfl⟩) | (go_at_call 12; (with_reducible refine (mod_any _ _ _).mono ?_); rw [M.out]; rintro e w' ⟨rfl, n, rfl⟩) | (go_at_call 14; (with_reducible refine (lives_any _).mono ?_); rintro e w' ⟨rfl, hg⟩))
          go_ret
          exact ⟨rfl, by repeat (first | (with_reducible exact Grown.refl _) | (with_reducible assumption) | (with_reducible refine Grown.drewN ?_ _) | (with_reducible refine Grown.trans ?_ (by with_reducible assumption)))⟩
  · have D : Hid (divV a0 a1 = (0, 2)) := by show divV a0 a1 = _; simp [divV, floorV, h]
    have M : Hid (modV a0 a1 = (0, 2)) := by show modV a0 a1 = _; simp [modV, floorV, h]
    clear h
    go_enter Try.func4, Try.ntmps4
    go_wp2_with (first | (go_at_call 10; (with_reducible refine (div_any _ _ _).mono ?_); rw [D.out]; rintro e w' ⟨rfl, n, rfl⟩) | (go_at_call 12; (with_reducible refine (mod_any _ _ _).mono ?_); rw [M.out]; rintro e w' ⟨rfl, n, rfl⟩) | (go_at_call 14; (with_reducible refine (lives_any _).mono ?_); rintro e w' ⟨rfl, hg⟩))
    go_ret
    exact ⟨rfl, by repeat (first | (with_reducible exact Grown.refl _) | (with_reducible assumption) | (with_reducible refine Grown.drewN ?_ _) | (with_reducible refine Grown.trans ?_ (by with_reducible assumption)))⟩

/-! ### THE ROW's STEP: WRITTEN OUT: LEAVE IT -/
set_option maxRecDepth 100000 in
theorem lifted (os : Os) (started : os.Started) (H : Type) (enc : TypeId × Value → H) :
    ReturnsInHanded {} Try.checked os 4 .any (Rows.wordFloorSpec.pre6 enc Try.prog Try.f4 Rows.wordFloorRow.domain false) (Rows.wordFloorSpec.post enc Try.prog Try.f4 false true false false) := by
  refine returnsInHanded_of_change (C := Try.checked) own started (by kernel_rfl) Try.func4
    (ChangeSpec.witness6 (enc := enc) (C := Try.checked) false ⟨#[], #[.int .i64 0, .int .i64 0], []⟩ 8 (by kernel_rfl) (by kernel_rfl) (by kernel_rfl) (by kernel_rfl)) ?_
  intro W base args ds gs before hval0 hW hcnd _
  have hval : ∀ (j : Nat) t v, Try.f4.params[j]? = some t → args[j]? = some v → Value.okWide Try.prog W .any base t v := hval0
  have hW' := hW
  obtain ⟨p, q, hA0, hV, rfl, hfz, hnd⟩ := hW
  have hA : DataW.TrodAll enc Try.prog W 0 (fun _ => true) true Try.f4.params.toList args.toList ds p := hA0
  rw [Try.params4] at hA hval
  obtain ⟨v0, vs0, d0, ds0, p0, q0, hargs, rfl, rfl, h0, r0⟩ := trodAll_cons hA
  obtain ⟨v1, vs1, d1, ds1, p1, q1, rfl, rfl, rfl, h1, r1⟩ := trodAll_cons r0
  obtain ⟨rfl, rfl, rfl⟩ := trodAll_nil r1
  obtain rfl : args = #[v0, v1] := by cases args; simp_all
  obtain ⟨rfl, rfl⟩ := trodVars_none hV
  obtain ⟨a0, rfl, rfl, rfl, w0⟩ := open_int Try.underlying3 (hval 0 3 v0 rfl rfl) h0
  obtain ⟨a1, rfl, rfl, rfl, w1⟩ := open_int Try.underlying3 (hval 1 3 v1 rfl rfl) h1
  clear hA0 hval0
  simp only [List.append_nil] at hW'
  refine (walk a0 a1 w0 w1 W).mono fun e W' ⟨he, hg⟩ => ?_
  subst he
  exact ⟨_, rfl, post_of_same (pa := []) (pv := []) hW' (fun _ _ _ => (trodAll_cons_mk (shut_bool Try.underlying4 _) trodAll_mk0)) (fun sp _ => (trodAll_cons_mk (shut_int Try.underlying3 w0) (trodAll_cons_mk (shut_int Try.underlying3 w1) trodAll_mk0))) (fun _ _ => rfl) rfl
    (hg.frame _) hg.2.1 (ok_one (by kernel_rfl) rfl (okWide_bool_mk Try.underlying4 _))⟩

theorem over : Rows.wordFloorRow.holds Try.pinned (OpenSpec.ofChange Rows.wordFloorSpec) :=
  OpenClaim.holds_of_wide 4 Try.f4 rfl rfl rfl rfl rfl rfl rfl ⟨rfl, rfl, rfl, rfl, rfl⟩ rfl rfl rfl rfl rfl (by kernel_rfl) Try.func4 (by kernel_rfl)
    (of_decide_eq_true (by kernel_rfl)) (by unfold Func.isWrapper; first | (rw [if_pos (by decide +kernel)]; kernel_rfl) | (rw [if_neg (by decide +kernel)]; exact ⟨rfl, rfl⟩))
    (fun os started H enc _ => lifted os started H enc)

theorem proved : Rows.WordFloorSaid :=
  over
end Go.Proofs.Ytnkfiebigfhilaa.wordFloor

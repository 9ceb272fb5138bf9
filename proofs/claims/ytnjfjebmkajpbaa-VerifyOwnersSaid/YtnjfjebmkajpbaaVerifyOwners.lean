/- The law VerifyOwners of chapter 11 holds for every input: it returns true, and its arguments stay. No conditions. -/
import Derived.Test.YtnjfjebmkajpbaaRows
import Derived.Test.YtnjfjebmkajpbaaO1
import Derived.WalkKit
import Derived.ProofKit
import Derived.OpenShut
import Derived.ChangeOld
import Derived.Below
namespace Go.Proofs.Ytnjfjebmkajpbaa.verifyOwners
open Go.ChangeShapes Go.WideShapes Go.ChangeAt Go.RowKit
set_option linter.unusedVariables false
set_option linter.unusedSimpArgs false

theorem own : ownKnob Try.prog.godebug = none := by kernel_rfl
theorem laidOut : laidOutB Try.prog = true := by kernel_rfl

set_option maxRecDepth 100000 in
set_option maxHeartbeats 40000000 in
theorem walk (w : World) (A0 : Option Addr) (n0 c0 : Nat) (C0 : Nat → Ins) (R0 : RawC w A0 n0 c0 C0) :
    Calls Try.prog 4 #[.slice A0 n0 c0] w fun e w' => e = .returned (.bool true) ∧ Below w.heap.size w w' := by
  have hle := R0.le
  have hcap := R0.cap
  have HR := Lib.hid R0.row
  clear R0
  by_cases hbig : 200 < n0
  · have x1 : decide (200 < n0) = true := decide_eq_true hbig
    have x2 : decide ((200 : Int) < (n0 : Int)) = true := decide_eq_true (by omega)
    have x3 : (200 : Int) < (n0 : Int) := by omega
    go_enter Try.func4, Try.ntmps4
    go_wp2_with fail
    go_loopw [3] (fun i wr => ∃ k : Nat, k ≤ 200 ∧ i = .int .i64 k ∧ (∀ j, j < k → -1000000 ≤ (C0 j).a ∧ (C0 j).a ≤ 1000000 ∧ -1000000 ≤ (C0 j).b ∧ (C0 j).b ≤ 1000000) ∧ Below w.heap.size w wr) (fun i _ => 200 - (intOf i).toNat)
    case atStart => exact ⟨0, Nat.zero_le _, rfl, fun j hj => absurd hj (by omega), Below.refl _ _⟩
    case round =>
      obtain ⟨k, hk, rfl, hall, hI⟩ := hrel
      have HALL := Lib.hid hall
      clear hall
      by_cases hlt : k < 200
      · have d1 : decide (k < 200) = true := decide_eq_true hlt
        obtain ⟨g, off, rfl, hgl, e0, e1, e2⟩ := HR.out.at_ hI (show k < n0 by omega)
        obtain ⟨i, hi⟩ : ∃ i, C0 k = i := ⟨_, rfl⟩
        have HI := Lib.hid hi
        rw [hi] at e0 e1 e2
        clear hi
        have g0 : (0 : Int) ≤ (k : Int) := by omega
        have g1 : (k : Int) < (200 : Int) := by omega
        by_cases x0 : i.a < (-100000 : Int)
        · have y0 : decide (i.a < (-100000 : Int)) = true := decide_eq_true x0
          clear x0
          go_wp2_with (go_at_call 8; (with_reducible refine (lives_any _).mono ?_); rintro e w4 ⟨rfl, hb4⟩)
          go_ret
          exact ⟨rfl, hI.trans (hb4.mono hI.size)⟩
        have y0 : decide (i.a < (-100000 : Int)) = false := decide_eq_false x0
        by_cases x1 : (100000 : Int) < i.a
        · have y1 : decide ((100000 : Int) < i.a) = true := decide_eq_true x1
          clear x1
          go_wp2_with (go_at_call 8; (with_reducible refine (lives_any _).mono ?_); rintro e w4 ⟨rfl, hb4⟩)
          go_ret
          exact ⟨rfl, hI.trans (hb4.mono hI.size)⟩
        have y1 : decide ((100000 : Int) < i.a) = false := decide_eq_false x1
        by_cases x2 : i.b < (-100000 : Int)
        · have y2 : decide (i.b < (-100000 : Int)) = true := decide_eq_true x2
          clear x2
          go_wp2_with (go_at_call 8; (with_reducible refine (lives_any _).mono ?_); rintro e w4 ⟨rfl, hb4⟩)
          go_ret
          exact ⟨rfl, hI.trans (hb4.mono hI.size)⟩
        have y2 : decide (i.b < (-100000 : Int)) = false := decide_eq_false x2
        by_cases x3 : (100000 : Int) < i.b
        · have y3 : decide ((100000 : Int) < i.b) = true := decide_eq_true x3
          clear x3
          go_wp2_with (go_at_call 8; (with_reducible refine (lives_any _).mono ?_); rintro e w4 ⟨rfl, hb4⟩)
          go_ret
          exact ⟨rfl, hI.trans (hb4.mono hI.size)⟩
        have y3 : decide ((100000 : Int) < i.b) = false := decide_eq_false x3
        have HX : Hid (-1000000 ≤ (C0 k).a ∧ (C0 k).a ≤ 1000000 ∧ -1000000 ≤ (C0 k).b ∧ (C0 k).b ≤ 1000000) := by show _ ∧ _; rw [HI.out]; omega
        clear x0 x1 x2 x3
        go_wp2_with fail
        go_roundw
        case rel => exact ⟨k + 1, by omega, by go_num, fun j hj => (by
            rcases Nat.lt_or_ge j k with h | h
            · exact HALL.out j h
            · obtain rfl : j = k := by omega
              exact HX.out), hI⟩
        case measure => simp [intOf]; omega
      · have hkn : k = 200 := by omega
        have d1 : decide (k < 200) = false := decide_eq_false hlt
        clear hlt
        subst hkn
        have hS : Small 200 C0 := fun j hj => HALL.out j hj
        have h1 := owners_any (c := c0) (HR.out.less (show 200 ≤ n0 by omega)) hI hS (by omega)
        have H1 := Lib.hid h1
        clear h1
        go_wp2_with fail
        (with_reducible refine H1.out.mono ?_)
        rintro e w1 ⟨v1, rfl, ⟨p1, q1, rfl, a1, a2, r1, a3⟩, b1⟩
        have t1 := hI.trans (b1.mono hI.size)
        have h2 := rowners_any (c := c0) (HR.out.less (show 200 ≤ n0 by omega)) t1 hS (by omega)
        have H2 := Lib.hid h2
        have HR1 := Lib.hid r1
        clear h2 r1
        go_wp2_with fail
        (with_reducible refine H2.out.mono ?_)
        rintro e w2 ⟨v2, rfl, ⟨p2, q2, rfl, a4, a5, r2, a6⟩, b2⟩
        have t2 := t1.trans (b2.mono t1.size)
        have HR2 := Lib.hid r2
        clear r2
        go_wp2_with fail
        (with_reducible refine (same_any (Row.below HR1.out b2) HR2.out (by omega) (Below.refl _ _)).mono ?_)
        rintro e w3 ⟨rfl, b3⟩
        have t3 := t2.trans (b3.mono t2.size)
        go_wp2_with (go_at_call 8; (with_reducible refine (lives_any _).mono ?_); rintro e w4 ⟨rfl, hb4⟩)
        go_ret
        exact ⟨rfl, t3.trans (hb4.mono t3.size)⟩
    
  · have x1 : decide (200 < n0) = false := decide_eq_false hbig
    have x2 : decide ((200 : Int) < (n0 : Int)) = false := decide_eq_false (by omega)
    have x3 : ¬ (200 : Int) < (n0 : Int) := by omega
    go_enter Try.func4, Try.ntmps4
    go_wp2_with fail
    go_loopw [3] (fun i wr => ∃ k : Nat, k ≤ n0 ∧ i = .int .i64 k ∧ (∀ j, j < k → -1000000 ≤ (C0 j).a ∧ (C0 j).a ≤ 1000000 ∧ -1000000 ≤ (C0 j).b ∧ (C0 j).b ≤ 1000000) ∧ Below w.heap.size w wr) (fun i _ => n0 - (intOf i).toNat)
    case atStart => exact ⟨0, Nat.zero_le _, rfl, fun j hj => absurd hj (by omega), Below.refl _ _⟩
    case round =>
      obtain ⟨k, hk, rfl, hall, hI⟩ := hrel
      have HALL := Lib.hid hall
      clear hall
      by_cases hlt : k < n0
      · have d1 : decide (k < n0) = true := decide_eq_true hlt
        obtain ⟨g, off, rfl, hgl, e0, e1, e2⟩ := HR.out.at_ hI (show k < n0 by omega)
        obtain ⟨i, hi⟩ : ∃ i, C0 k = i := ⟨_, rfl⟩
        have HI := Lib.hid hi
        rw [hi] at e0 e1 e2
        clear hi
        have g0 : (0 : Int) ≤ (k : Int) := by omega
        have g1 : (k : Int) < (n0 : Int) := by omega
        by_cases x0 : i.a < (-100000 : Int)
        · have y0 : decide (i.a < (-100000 : Int)) = true := decide_eq_true x0
          clear x0
          go_wp2_with (go_at_call 8; (with_reducible refine (lives_any _).mono ?_); rintro e w4 ⟨rfl, hb4⟩)
          go_ret
          exact ⟨rfl, hI.trans (hb4.mono hI.size)⟩
        have y0 : decide (i.a < (-100000 : Int)) = false := decide_eq_false x0
        by_cases x1 : (100000 : Int) < i.a
        · have y1 : decide ((100000 : Int) < i.a) = true := decide_eq_true x1
          clear x1
          go_wp2_with (go_at_call 8; (with_reducible refine (lives_any _).mono ?_); rintro e w4 ⟨rfl, hb4⟩)
          go_ret
          exact ⟨rfl, hI.trans (hb4.mono hI.size)⟩
        have y1 : decide ((100000 : Int) < i.a) = false := decide_eq_false x1
        by_cases x2 : i.b < (-100000 : Int)
        · have y2 : decide (i.b < (-100000 : Int)) = true := decide_eq_true x2
          clear x2
          go_wp2_with (go_at_call 8; (with_reducible refine (lives_any _).mono ?_); rintro e w4 ⟨rfl, hb4⟩)
          go_ret
          exact ⟨rfl, hI.trans (hb4.mono hI.size)⟩
        have y2 : decide (i.b < (-100000 : Int)) = false := decide_eq_false x2
        by_cases x3 : (100000 : Int) < i.b
        · have y3 : decide ((100000 : Int) < i.b) = true := decide_eq_true x3
          clear x3
          go_wp2_with (go_at_call 8; (with_reducible refine (lives_any _).mono ?_); rintro e w4 ⟨rfl, hb4⟩)
          go_ret
          exact ⟨rfl, hI.trans (hb4.mono hI.size)⟩
        have y3 : decide ((100000 : Int) < i.b) = false := decide_eq_false x3
        have HX : Hid (-1000000 ≤ (C0 k).a ∧ (C0 k).a ≤ 1000000 ∧ -1000000 ≤ (C0 k).b ∧ (C0 k).b ≤ 1000000) := by show _ ∧ _; rw [HI.out]; omega
        clear x0 x1 x2 x3
        go_wp2_with fail
        go_roundw
        case rel => exact ⟨k + 1, by omega, by go_num, fun j hj => (by
            rcases Nat.lt_or_ge j k with h | h
            · exact HALL.out j h
            · obtain rfl : j = k := by omega
              exact HX.out), hI⟩
        case measure => simp [intOf]; omega
      · have hkn : k = n0 := by omega
        have d1 : decide (k < n0) = false := decide_eq_false hlt
        clear hlt
        subst hkn
        have hS : Small k C0 := fun j hj => HALL.out j hj
        have h1 := owners_any (c := c0) (HR.out.less (show k ≤ k by omega)) hI hS (by omega)
        have H1 := Lib.hid h1
        clear h1
        go_wp2_with fail
        (with_reducible refine H1.out.mono ?_)
        rintro e w1 ⟨v1, rfl, ⟨p1, q1, rfl, a1, a2, r1, a3⟩, b1⟩
        have t1 := hI.trans (b1.mono hI.size)
        have h2 := rowners_any (c := c0) (HR.out.less (show k ≤ k by omega)) t1 hS (by omega)
        have H2 := Lib.hid h2
        have HR1 := Lib.hid r1
        clear h2 r1
        go_wp2_with fail
        (with_reducible refine H2.out.mono ?_)
        rintro e w2 ⟨v2, rfl, ⟨p2, q2, rfl, a4, a5, r2, a6⟩, b2⟩
        have t2 := t1.trans (b2.mono t1.size)
        have HR2 := Lib.hid r2
        clear r2
        go_wp2_with fail
        (with_reducible refine (same_any (Row.below HR1.out b2) HR2.out (by omega) (Below.refl _ _)).mono ?_)
        rintro e w3 ⟨rfl, b3⟩
        have t3 := t2.trans (b3.mono t2.size)
        go_wp2_with (go_at_call 8; (with_reducible refine (lives_any _).mono ?_); rintro e w4 ⟨rfl, hb4⟩)
        go_ret
        exact ⟨rfl, t3.trans (hb4.mono t3.size)⟩
    


/-! ### the row's step -/
set_option maxRecDepth 100000 in
theorem lifted (os : Os) (started : os.Started) (H : Type) (enc : TypeId × Value → H) :
    ReturnsInHanded {} Try.checked os 4 .any (Rows.verifyOwnersSpec.pre6 enc Try.prog Try.f4 Rows.verifyOwnersRow.domain false) (Rows.verifyOwnersSpec.post enc Try.prog Try.f4 false true false false) := by
  refine returnsInHanded_of_change (C := Try.checked) own started (by kernel_rfl) Try.func4
    (ChangeSpec.witness6 (enc := enc) (C := Try.checked) false ⟨#[], #[.slice none 0 0], []⟩ 8 (by kernel_rfl) (by kernel_rfl) (by kernel_rfl) (by kernel_rfl)) ?_
  intro W base args ds gs before hval0 hW hcnd _
  have hval : ∀ (j : Nat) t v, Try.f4.params[j]? = some t → args[j]? = some v → Value.okWide Try.prog W .any base t v := hval0
  have hW' := hW
  obtain ⟨p, q, hA0, hV, rfl, hfz, hnd⟩ := hW
  have hA : DataW.TrodAll enc Try.prog W 0 (fun _ => true) true Try.f4.params.toList args.toList ds p := hA0
  rw [Try.params4] at hA hval
  obtain ⟨v0, vs0, d0, ds0, p0, q0, hargs, rfl, rfl, h0, r0⟩ := trodAll_cons hA
  obtain ⟨rfl, rfl, rfl⟩ := trodAll_nil r0
  obtain rfl : args = #[v0] := by cases args; simp_all
  obtain ⟨rfl, rfl⟩ := trodVars_none hV
  have k0 := h0
  have lt0 : ∀ x ∈ p0, x.block < W.heap.size := by obtain ⟨m, hm⟩ := k0; exact DataW.trod_lt m _ _ _ hm
  obtain ⟨A0, n0, c0, C0, rfl, R0⟩ := open_code (hval 0 23 v0 rfl rfl) h0
  clear hA0 hval0
  refine (walk W _ _ _ _ R0).mono fun e W' ⟨he, bel⟩ => ?_
  subst he
  exact ⟨_, rfl, _, _, _, [], _, [], hW', trodAll_mk1 (shut_bool Try.underlying4 _), (trodAll_cons_mk (Below.trod laidOut (by kernel_rfl) (of_decide_eq_true (by kernel_rfl)) k0 bel lt0) trodAll_mk0), rfl, bel.frame _, fun h => by cases h⟩

theorem over : Rows.verifyOwnersRow.holds Try.pinned (OpenSpec.ofChange Rows.verifyOwnersSpec) :=
  OpenClaim.holds_of_wide 4 Try.f4 rfl rfl rfl rfl rfl rfl rfl ⟨rfl, rfl, rfl, rfl, rfl⟩ rfl rfl rfl rfl rfl (by kernel_rfl) Try.func4 (by kernel_rfl)
    (of_decide_eq_true (by kernel_rfl)) (by unfold Func.isWrapper; first | (rw [if_pos (by decide +kernel)]; kernel_rfl) | (rw [if_neg (by decide +kernel)]; exact ⟨rfl, rfl⟩))
    (fun os started H enc _ => lifted os started H enc)

theorem proved : Rows.VerifyOwnersSaid := over
end Go.Proofs.Ytnjfjebmkajpbaa.verifyOwners

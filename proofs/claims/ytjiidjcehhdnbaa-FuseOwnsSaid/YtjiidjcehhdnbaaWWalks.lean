/- Contracts of the functions of chapter 1 (words and numbers), and of its references. -/
import Derived.Test.YtjiidjcehhdnbaaChecked
import Derived.Test.YtjiidjcehhdnbaaWPlain
import Derived.Handy
import Derived.Lib.Hide
import Derived.Lib.Mul64
import Derived.Laws.Bits64b
import Derived.RegionTactic
import Derived.Deep.QuietTactic
import Derived.BigQuiet
import Derived.Outline
namespace Go.Proofs.Ytjiidjcehhdnbaa
open Go.ChangeShapes Go.WideShapes Go.ChangeAt Go.RowKit

/-- the world but for draws -/
def Drew (w w' : World) : Prop := ∃ n, w' = w.drewN n
theorem Drew.refl (w : World) : Drew w w := ⟨0, rfl⟩

theorem in_any (n lo hi : Int) (w : World) :
    Calls Try.prog 39 #[.int .i64 n, .int .i64 lo, .int .i64 hi] w fun e w' => e = .returned (.bool (decide (lo ≤ n) && decide (n ≤ hi))) ∧ w' = w := by
  by_cases h : lo ≤ n
  · go_enter Try.func39, Try.ntmps39
    go_wp2
    go_ret
    refine ⟨?_, rfl⟩
    simp [h]
  · go_enter Try.func39, Try.ntmps39
    go_wp2
    go_ret
    refine ⟨?_, rfl⟩
    have h : ¬ lo ≤ n := by omega
    simp [h]

theorem rnum_any (n : Int) (w : World) :
    Calls Try.prog 44 #[.int .i64 n] w fun e w' => e = .returned (.bool (num n)) ∧ w' = w := by
  by_cases h : -1152921504606846976 ≤ n
  · go_enter Try.func44, Try.ntmps44
    go_wp2
    go_ret
    refine ⟨?_, rfl⟩
    simp [num, h]
  · go_enter Try.func44, Try.ntmps44
    go_wp2
    go_ret
    refine ⟨?_, rfl⟩
    have h : ¬ -1152921504606846976 ≤ n := by omega
    simp [num, h]

theorem radd_any (a b : Int) (w : World) :
    Calls Try.prog 41 #[.int .i64 a, .int .i64 b] w fun e w' => e = .returned (.tuple #[.int .i64 (addV a b).1, .int .i64 (addV a b).2]) ∧ w' = w := by
  rcases Bool.eq_false_or_eq_true (num a) with h | h
  · rcases Bool.eq_false_or_eq_true (num b) with k | k
    · obtain ⟨h1, h2⟩ := num_true h
      obtain ⟨k1, k2⟩ := num_true k
      rcases Bool.eq_false_or_eq_true (num (a + b)) with l | l
      all_goals
        go_enter Try.func41, Try.ntmps41
        go_wp2_with (go_at_call 44; refine (rnum_any _ _).mono ?_; rintro e w' ⟨rfl, rfl⟩)
        go_ret2
        refine ⟨?_, rfl⟩
        simp [addV, told, h, k, l]
    · go_enter Try.func41, Try.ntmps41
      go_wp2_with (go_at_call 44; refine (rnum_any _ _).mono ?_; rintro e w' ⟨rfl, rfl⟩)
      go_ret2
      refine ⟨?_, rfl⟩
      simp [addV, h, k]
  · rcases Bool.eq_false_or_eq_true (num b) with k | k
    all_goals
      go_enter Try.func41, Try.ntmps41
      go_wp2_with (go_at_call 44; refine (rnum_any _ _).mono ?_; rintro e w' ⟨rfl, rfl⟩)
      go_ret2
      refine ⟨?_, rfl⟩
      simp [addV, h]

theorem rsub_any (a b : Int) (w : World) :
    Calls Try.prog 42 #[.int .i64 a, .int .i64 b] w fun e w' => e = .returned (.tuple #[.int .i64 (subV a b).1, .int .i64 (subV a b).2]) ∧ w' = w := by
  rcases Bool.eq_false_or_eq_true (num a) with h | h
  · rcases Bool.eq_false_or_eq_true (num b) with k | k
    · obtain ⟨h1, h2⟩ := num_true h
      obtain ⟨k1, k2⟩ := num_true k
      rcases Bool.eq_false_or_eq_true (num (a - b)) with l | l
      all_goals
        go_enter Try.func42, Try.ntmps42
        go_wp2_with (go_at_call 44; refine (rnum_any _ _).mono ?_; rintro e w' ⟨rfl, rfl⟩)
        go_ret2
        refine ⟨?_, rfl⟩
        simp [subV, told, h, k, l]
    · go_enter Try.func42, Try.ntmps42
      go_wp2_with (go_at_call 44; refine (rnum_any _ _).mono ?_; rintro e w' ⟨rfl, rfl⟩)
      go_ret2
      refine ⟨?_, rfl⟩
      simp [subV, h, k]
  · rcases Bool.eq_false_or_eq_true (num b) with k | k
    all_goals
      go_enter Try.func42, Try.ntmps42
      go_wp2_with (go_at_call 44; refine (rnum_any _ _).mono ?_; rintro e w' ⟨rfl, rfl⟩)
      go_ret2
      refine ⟨?_, rfl⟩
      simp [subV, h]

end Go.Proofs.Ytjiidjcehhdnbaa

/- Contracts of the functions of chapter 1 (words and numbers), and of its references. -/
import Derived.Test.YtnkfiebigfhilaaChecked
import Derived.Test.YtnkfiebigfhilaaPlain
import Derived.Handy
import Derived.Lib.Hide
import Derived.Lib.Mul64
import Derived.Laws.Bits64b
import Derived.RegionTactic
import Derived.Deep.QuietTactic
import Derived.BigQuiet
import Derived.Outline
namespace Go.Proofs.Ytnkfiebigfhilaa
open Go.ChangeShapes Go.WideShapes Go.ChangeAt Go.RowKit

/-- the world but for draws -/
def Drew (w w' : World) : Prop := ∃ n, w' = w.drewN n
theorem Drew.refl (w : World) : Drew w w := ⟨0, rfl⟩

theorem in_any (n lo hi : Int) (w : World) :
    Calls Try.prog 39 #[.int .i64 n, .int .i64 lo, .int .i64 hi] w fun e w' => e = .returned (.bool (decide (lo ≤ n) && decide (n ≤ hi))) ∧ w' = w := by
  by_cases h : lo ≤ n
  · go_enter Try.func39, Try.ntmps39
    go_wp2
    go_ret
    refine ⟨?_, rfl⟩
    simp [h]
  · go_enter Try.func39, Try.ntmps39
    go_wp2
    go_ret
    refine ⟨?_, rfl⟩
    have h : ¬ lo ≤ n := by omega
    simp [h]

theorem num_any (n : Int) (w : World) :
    Calls Try.prog 35 #[.int .i64 n] w fun e w' => e = .returned (.bool (num n)) ∧ w' = w := by
  go_enter Try.func35, Try.ntmps35
  go_wp2_with (go_at_call 39; refine (in_any _ _ _ _).mono ?_; rintro e w' ⟨rfl, rfl⟩)
  go_ret
  refine ⟨?_, rfl⟩
  simp [num]

theorem rnum_any (n : Int) (w : World) :
    Calls Try.prog 34 #[.int .i64 n] w fun e w' => e = .returned (.bool (num n)) ∧ w' = w := by
  by_cases h : -1152921504606846976 ≤ n
  · go_enter Try.func34, Try.ntmps34
    go_wp2
    go_ret
    refine ⟨?_, rfl⟩
    simp [num, h]
  · go_enter Try.func34, Try.ntmps34
    go_wp2
    go_ret
    refine ⟨?_, rfl⟩
    have h : ¬ -1152921504606846976 ≤ n := by omega
    simp [num, h]

theorem told_any (n : Int) (w : World) :
    Calls Try.prog 36 #[.int .i64 n] w fun e w' => e = .returned (.tuple #[.int .i64 (told n).1, .int .i64 (told n).2]) ∧ w' = w := by
  rcases Bool.eq_false_or_eq_true (num n) with h | h
  all_goals
    go_enter Try.func36, Try.ntmps36
    go_wp2_with (go_at_call 35; refine (num_any _ _).mono ?_; rintro e w' ⟨rfl, rfl⟩)
    go_ret2
    refine ⟨?_, rfl⟩
    simp [told, h]

theorem add_any (a b : Int) (w : World) :
    Calls Try.prog 15 #[.int .i64 a, .int .i64 b] w fun e w' => e = .returned (.tuple #[.int .i64 (addV a b).1, .int .i64 (addV a b).2]) ∧ w' = w := by
  rcases Bool.eq_false_or_eq_true (num a) with h | h
  · rcases Bool.eq_false_or_eq_true (num b) with k | k
    · obtain ⟨h1, h2⟩ := num_true h
      obtain ⟨k1, k2⟩ := num_true k
      go_enter Try.func15, Try.ntmps15
      go_wp2_with (first | (go_at_call 35; refine (num_any _ _).mono ?_; rintro e w' ⟨rfl, rfl⟩) | (go_at_call 36; refine (told_any _ _).mono ?_; rintro e w' ⟨rfl, rfl⟩))
      go_ret2
      refine ⟨?_, rfl⟩
      simp [addV, h, k]
    · go_enter Try.func15, Try.ntmps15
      go_wp2_with (go_at_call 35; refine (num_any _ _).mono ?_; rintro e w' ⟨rfl, rfl⟩)
      go_ret2
      refine ⟨?_, rfl⟩
      simp [addV, h, k]
  · go_enter Try.func15, Try.ntmps15
    go_wp2_with (go_at_call 35; refine (num_any _ _).mono ?_; rintro e w' ⟨rfl, rfl⟩)
    go_ret2
    refine ⟨?_, rfl⟩
    simp [addV, h]

theorem neg_any (n : Int) (w : World) :
    Calls Try.prog 38 #[.int .i64 n] w fun e w' => e = .returned (.int .i64 (negV n)) ∧ w' = w := by
  rcases Bool.eq_false_or_eq_true (num n) with h | h
  · obtain ⟨h1, h2⟩ := num_true h
    go_enter Try.func38, Try.ntmps38
    go_wp2_with (go_at_call 35; refine (num_any _ _).mono ?_; rintro e w' ⟨rfl, rfl⟩)
    go_ret
    refine ⟨?_, rfl⟩
    simp [negV, h]
  · go_enter Try.func38, Try.ntmps38
    go_wp2_with (go_at_call 35; refine (num_any _ _).mono ?_; rintro e w' ⟨rfl, rfl⟩)
    go_ret
    refine ⟨?_, rfl⟩
    simp [negV, h]

theorem sub_any (a b : Int) (w : World) :
    Calls Try.prog 18 #[.int .i64 a, .int .i64 b] w fun e w' => e = .returned (.tuple #[.int .i64 (subV a b).1, .int .i64 (subV a b).2]) ∧ w' = w := by
  go_enter Try.func18, Try.ntmps18
  go_wp2_with (first | (go_at_call 38; refine (neg_any _ _).mono ?_; rintro e w' ⟨rfl, rfl⟩) | (go_at_call 15; refine (add_any _ _ _).mono ?_; rintro e w' ⟨rfl, rfl⟩))
  go_ret2
  refine ⟨?_, rfl⟩
  rw [← addV_neg]; rfl

theorem radd_any (a b : Int) (w : World) :
    Calls Try.prog 17 #[.int .i64 a, .int .i64 b] w fun e w' => e = .returned (.tuple #[.int .i64 (addV a b).1, .int .i64 (addV a b).2]) ∧ w' = w := by
  rcases Bool.eq_false_or_eq_true (num a) with h | h
  · rcases Bool.eq_false_or_eq_true (num b) with k | k
    · obtain ⟨h1, h2⟩ := num_true h
      obtain ⟨k1, k2⟩ := num_true k
      rcases Bool.eq_false_or_eq_true (num (a + b)) with l | l
      all_goals
        go_enter Try.func17, Try.ntmps17
        go_wp2_with (go_at_call 34; refine (rnum_any _ _).mono ?_; rintro e w' ⟨rfl, rfl⟩)
        go_ret2
        refine ⟨?_, rfl⟩
        simp [addV, told, h, k, l]
    · go_enter Try.func17, Try.ntmps17
      go_wp2_with (go_at_call 34; refine (rnum_any _ _).mono ?_; rintro e w' ⟨rfl, rfl⟩)
      go_ret2
      refine ⟨?_, rfl⟩
      simp [addV, h, k]
  · rcases Bool.eq_false_or_eq_true (num b) with k | k
    all_goals
      go_enter Try.func17, Try.ntmps17
      go_wp2_with (go_at_call 34; refine (rnum_any _ _).mono ?_; rintro e w' ⟨rfl, rfl⟩)
      go_ret2
      refine ⟨?_, rfl⟩
      simp [addV, h]

theorem rsub_any (a b : Int) (w : World) :
    Calls Try.prog 19 #[.int .i64 a, .int .i64 b] w fun e w' => e = .returned (.tuple #[.int .i64 (subV a b).1, .int .i64 (subV a b).2]) ∧ w' = w := by
  rcases Bool.eq_false_or_eq_true (num a) with h | h
  · rcases Bool.eq_false_or_eq_true (num b) with k | k
    · obtain ⟨h1, h2⟩ := num_true h
      obtain ⟨k1, k2⟩ := num_true k
      rcases Bool.eq_false_or_eq_true (num (a - b)) with l | l
      all_goals
        go_enter Try.func19, Try.ntmps19
        go_wp2_with (go_at_call 34; refine (rnum_any _ _).mono ?_; rintro e w' ⟨rfl, rfl⟩)
        go_ret2
        refine ⟨?_, rfl⟩
        simp [subV, told, h, k, l]
    · go_enter Try.func19, Try.ntmps19
      go_wp2_with (go_at_call 34; refine (rnum_any _ _).mono ?_; rintro e w' ⟨rfl, rfl⟩)
      go_ret2
      refine ⟨?_, rfl⟩
      simp [subV, h, k]
  · rcases Bool.eq_false_or_eq_true (num b) with k | k
    all_goals
      go_enter Try.func19, Try.ntmps19
      go_wp2_with (go_at_call 34; refine (rnum_any _ _).mono ?_; rintro e w' ⟨rfl, rfl⟩)
      go_ret2
      refine ⟨?_, rfl⟩
      simp [subV, h]

theorem floor_no (a b : Int) (w : World) (hn : (num a && num b) = false) :
    Calls Try.prog 33 #[.int .i64 a, .int .i64 b] w fun e w' => e = .returned (.tuple #[.int .i64 (floorV a b).1, .int .i64 (floorV a b).2.1, .int .i64 (floorV a b).2.2]) ∧ Drew w w' := by
  rcases Bool.eq_false_or_eq_true (num a) with h | h
  · have k : num b = false := by simpa [h] using hn
    clear hn
    go_enter Try.func33, Try.ntmps33
    go_wp2_with (go_at_call 35; refine (num_any _ _).mono ?_; rintro e w' ⟨rfl, rfl⟩)
    go_ret3
    refine ⟨?_, Drew.refl _⟩
    simp [floorV, h, k]
  · clear hn
    go_enter Try.func33, Try.ntmps33
    go_wp2_with (go_at_call 35; refine (num_any _ _).mono ?_; rintro e w' ⟨rfl, rfl⟩)
    go_ret3
    refine ⟨?_, Drew.refl _⟩
    simp [floorV, h]

theorem floor_zero (a : Int) (w : World) (h : num a = true) :
    Calls Try.prog 33 #[.int .i64 a, .int .i64 0] w fun e w' => e = .returned (.tuple #[.int .i64 (floorV a 0).1, .int .i64 (floorV a 0).2.1, .int .i64 (floorV a 0).2.2]) ∧ Drew w w' := by
  have k : num 0 = true := by decide
  go_enter Try.func33, Try.ntmps33
  go_wp2_with (go_at_call 35; refine (num_any _ _).mono ?_; rintro e w' ⟨rfl, rfl⟩)
  go_ret3
  refine ⟨?_, Drew.refl _⟩
  simp [floorV, h, k]

theorem floor_yes (a b : Int) (w : World) (h : num a = true) (k : num b = true) (hb : (b == 0) = false) :
    Calls Try.prog 33 #[.int .i64 a, .int .i64 b] w fun e w' => e = .returned (.tuple #[.int .i64 (floorV a b).1, .int .i64 (floorV a b).2.1, .int .i64 (floorV a b).2.2]) ∧ Drew w w' := by
  obtain ⟨h1, h2⟩ := num_true h
  obtain ⟨k1, k2⟩ := num_true k
  have hb' : ¬ b = 0 := by simpa using hb
  obtain ⟨t1, t2⟩ := tdiv_bd a b _ h1 h2
  obtain ⟨t3, t4⟩ := tmod_bd a b _ hb' k1 k2
  by_cases c0 : a.tmod b = 0
  · have F := Lib.hid (floor_same a b hb' (.inl c0))
    have c0' : (a.tmod b != 0) = false := by simp [c0]
    clear c0
    go_enter Try.func33, Try.ntmps33
    go_wp2_with (go_at_call 35; refine (num_any _ _).mono ?_; rintro e w' ⟨rfl, rfl⟩)
    go_quiet (fail)
    go_wp2
    go_ret3
    refine ⟨?_, _, rfl⟩
    simp [floorV, h, k, hb', F.out]
  · have c0' : (a.tmod b != 0) = true := by simp [c0]
    by_cases c1 : a.tmod b < 0
    · have d1 : decide (a.tmod b < 0) = true := decide_eq_true c1
      by_cases c2 : b < 0
      · have d2 : decide (b < 0) = true := decide_eq_true c2
        have F := Lib.hid (floor_same a b hb' (.inr ⟨fun _ => c2, fun _ => c1⟩))
        clear c0
        go_enter Try.func33, Try.ntmps33
        go_wp2_with (go_at_call 35; refine (num_any _ _).mono ?_; rintro e w' ⟨rfl, rfl⟩)
        go_quiet (fail)
        go_wp2
        go_ret3
        refine ⟨?_, _, rfl⟩
        simp [floorV, h, k, hb', F.out]
      · have d2 : decide (b < 0) = false := decide_eq_false c2
        have F := Lib.hid (floor_turn a b hb' c0 (fun g => c2 (g.1 c1)))
        clear c0
        go_enter Try.func33, Try.ntmps33
        go_wp2_with (go_at_call 35; refine (num_any _ _).mono ?_; rintro e w' ⟨rfl, rfl⟩)
        go_quiet (fail)
        go_wp2
        go_ret3
        refine ⟨?_, _, rfl⟩
        simp [floorV, h, k, hb', F.out]
    · have d1 : decide (a.tmod b < 0) = false := decide_eq_false c1
      by_cases c2 : b < 0
      · have d2 : decide (b < 0) = true := decide_eq_true c2
        have F := Lib.hid (floor_turn a b hb' c0 (fun g => c1 (g.2 c2)))
        clear c0
        go_enter Try.func33, Try.ntmps33
        go_wp2_with (go_at_call 35; refine (num_any _ _).mono ?_; rintro e w' ⟨rfl, rfl⟩)
        go_quiet (fail)
        go_wp2
        go_ret3
        refine ⟨?_, _, rfl⟩
        simp [floorV, h, k, hb', F.out]
      · have d2 : decide (b < 0) = false := decide_eq_false c2
        have F := Lib.hid (floor_same a b hb' (.inr ⟨fun g => absurd g c1, fun g => absurd g c2⟩))
        clear c0
        go_enter Try.func33, Try.ntmps33
        go_wp2_with (go_at_call 35; refine (num_any _ _).mono ?_; rintro e w' ⟨rfl, rfl⟩)
        go_quiet (fail)
        go_wp2
        go_ret3
        refine ⟨?_, _, rfl⟩
        simp [floorV, h, k, hb', F.out]

theorem floor_any (a b : Int) (w : World) :
    Calls Try.prog 33 #[.int .i64 a, .int .i64 b] w fun e w' => e = .returned (.tuple #[.int .i64 (floorV a b).1, .int .i64 (floorV a b).2.1, .int .i64 (floorV a b).2.2]) ∧ Drew w w' := by
  rcases Bool.eq_false_or_eq_true (num a) with h | h
  · rcases Bool.eq_false_or_eq_true (num b) with k | k
    · rcases Bool.eq_false_or_eq_true (b == 0) with l | l
      · obtain rfl : b = 0 := by simpa using l
        exact floor_zero a w h
      · exact floor_yes a b w h k l
    · exact floor_no a b w (by simp [k])
  · exact floor_no a b w (by simp [h])

theorem div_any (a b : Int) (w : World) :
    Calls Try.prog 10 #[.int .i64 a, .int .i64 b] w fun e w' => e = .returned (.tuple #[.int .i64 (divV a b).1, .int .i64 (divV a b).2]) ∧ Drew w w' := by
  go_enter Try.func10, Try.ntmps10
  go_wp2_with (go_at_call 33; refine (floor_any _ _ _).mono ?_; rintro e w' ⟨rfl, n, rfl⟩)
  go_ret2
  exact ⟨rfl, _, rfl⟩

theorem mod_any (a b : Int) (w : World) :
    Calls Try.prog 12 #[.int .i64 a, .int .i64 b] w fun e w' => e = .returned (.tuple #[.int .i64 (modV a b).1, .int .i64 (modV a b).2]) ∧ Drew w w' := by
  go_enter Try.func12, Try.ntmps12
  go_wp2_with (go_at_call 33; refine (floor_any _ _ _).mono ?_; rintro e w' ⟨rfl, n, rfl⟩)
  go_ret2
  exact ⟨rfl, _, rfl⟩

theorem rdiv_any (a b : Int) (w : World) :
    Calls Try.prog 11 #[.int .i64 a, .int .i64 b] w fun e w' => e = .returned (.tuple #[.int .i64 (divV a b).1, .int .i64 (divV a b).2]) ∧ w' = w := by
  rcases Bool.eq_false_or_eq_true (num a) with h | h
  · rcases Bool.eq_false_or_eq_true (num b) with k | k
    · obtain ⟨h1, h2⟩ := num_true h
      obtain ⟨k1, k2⟩ := num_true k
      by_cases hb0 : b = 0
      · subst hb0
        go_enter Try.func11, Try.ntmps11
        go_wp2_with (go_at_call 34; refine (rnum_any _ _).mono ?_; rintro e w' ⟨rfl, rfl⟩)
        go_ret2
        refine ⟨?_, rfl⟩
        simp [divV, floorV, h, k]
      · have hb : (b == 0) = false := by simpa using hb0
        by_cases c2 : b < 0
        · have B := fdiv_bd a b h k hb0
          obtain ⟨x, rfl⟩ : ∃ x, a = -x := ⟨-a, by omega⟩
          obtain ⟨y, rfl⟩ : ∃ y, b = -y := ⟨-b, by omega⟩
          by_cases c1 : 0 ≤ x
          · have F := Lib.hid (show Int.fdiv (-x) (-y) = x / y by rw [← Int.fdiv_eq_ediv_of_nonneg _ (by omega), Int.neg_fdiv_neg])
            rw [F.out] at B
            obtain ⟨B1, B2⟩ := B
            go_enter Try.func11, Try.ntmps11
            go_wp2_with (go_at_call 34; refine (rnum_any _ _).mono ?_; rintro e w' ⟨rfl, rfl⟩)
            go_ret2
            refine ⟨?_, rfl⟩
            simp only [divV, floorV, h, k, hb, F.out]; rfl
          · have F := Lib.hid (show Int.fdiv (-x) (-y) = -((-x + y - 1) / y) by rw [Int.neg_fdiv_neg, ref_up x y (by omega) (by omega)])
            rw [F.out] at B
            obtain ⟨B1, B2⟩ := B
            go_enter Try.func11, Try.ntmps11
            go_wp2_with (go_at_call 34; refine (rnum_any _ _).mono ?_; rintro e w' ⟨rfl, rfl⟩)
            go_ret2
            refine ⟨?_, rfl⟩
            simp only [divV, floorV, h, k, hb, F.out]; rfl
        · have B := fdiv_bd a b h k hb0
          by_cases c1 : 0 ≤ a
          · have F := Lib.hid (show Int.fdiv a b = a / b by rw [← Int.fdiv_eq_ediv_of_nonneg _ (by omega)])
            rw [F.out] at B
            obtain ⟨B1, B2⟩ := B
            go_enter Try.func11, Try.ntmps11
            go_wp2_with (go_at_call 34; refine (rnum_any _ _).mono ?_; rintro e w' ⟨rfl, rfl⟩)
            go_ret2
            refine ⟨?_, rfl⟩
            simp only [divV, floorV, h, k, hb, F.out]; rfl
          · have F := Lib.hid (ref_up a b (by omega) (by omega)).symm
            rw [F.out] at B
            obtain ⟨B1, B2⟩ := B
            go_enter Try.func11, Try.ntmps11
            go_wp2_with (go_at_call 34; refine (rnum_any _ _).mono ?_; rintro e w' ⟨rfl, rfl⟩)
            go_ret2
            refine ⟨?_, rfl⟩
            simp only [divV, floorV, h, k, hb, F.out]; rfl
    · go_enter Try.func11, Try.ntmps11
      go_wp2_with (go_at_call 34; refine (rnum_any _ _).mono ?_; rintro e w' ⟨rfl, rfl⟩)
      go_ret2
      refine ⟨?_, rfl⟩
      simp [divV, floorV, h, k]
  · rcases Bool.eq_false_or_eq_true (num b) with k | k
    all_goals
      go_enter Try.func11, Try.ntmps11
      go_wp2_with (go_at_call 34; refine (rnum_any _ _).mono ?_; rintro e w' ⟨rfl, rfl⟩)
      go_ret2
      refine ⟨?_, rfl⟩
      simp [divV, floorV, h]

end Go.Proofs.Ytnkfiebigfhilaa

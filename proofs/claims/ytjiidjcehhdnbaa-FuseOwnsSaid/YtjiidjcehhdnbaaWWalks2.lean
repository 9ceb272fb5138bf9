/- More contracts of chapter 1: remainders, products, words. -/
import Derived.Test.YtjiidjcehhdnbaaWWalks
import Derived.Test.YtjiidjcehhdnbaaWBits
namespace Go.Proofs.Ytjiidjcehhdnbaa
open Go.ChangeShapes Go.WideShapes Go.ChangeAt Go.RowKit Go.Lib

theorem maskN (a : Nat) (ha : a < 18446744073709551616) : bits .and .u64 (a : Int) 4294967295 = ((a % 4294967296 : Nat) : Int) := by
  have h := bits_and_u64_nat a 4294967295 ha (by omega)
  have e : a &&& 4294967295 = a % 4294967296 := Nat.and_two_pow_sub_one_eq_mod a 32
  rw [e] at h
  exact h
theorem divN (a : Nat) : (a : Int) / 4294967296 = ((a / 4294967296 : Nat) : Int) := by omega
theorem mulN (a b : Nat) : (a : Int) * (b : Int) = ((a * b : Nat) : Int) := (Int.natCast_mul a b).symm
theorem addN (a b : Nat) : (a : Int) + (b : Int) = ((a + b : Nat) : Int) := (Int.natCast_add a b).symm
theorem wrapN (a : Nat) (ha : a < 18446744073709551616) : IntKind.u64.wrap (a : Int) = (a : Int) := by rw [IntKind.wrap_u64]; omega
theorem wrapM (a : Nat) : IntKind.u64.wrap (a : Int) = ((a % 18446744073709551616 : Nat) : Int) := by rw [IntKind.wrap_u64]; omega

set_option maxHeartbeats 1000000 in
theorem told_nat (p : Nat) (h : p ≤ 1152921504606846976) : num (p : Int) = true := num_mk (by omega) (by omega)

set_option maxHeartbeats 1000000 in
set_option maxHeartbeats 2000000 in
theorem ediv_lt (x y : Nat) (m : Nat) (hy : 0 < y) : (decide ((m : Int) / y < x)) = decide (m < x * y) := by
  rw [decide_eq_decide]
  have := Nat.div_lt_iff_lt_mul (x := m) (y := x) hy
  rw [← Int.natCast_ediv]; omega

theorem rmul_no (a b : Int) (w : World) (hn : (num a && num b) = false) :
    Calls Try.prog 43 #[.int .i64 a, .int .i64 b] w fun e w' => e = .returned (.tuple #[.int .i64 (mulV a b).1, .int .i64 (mulV a b).2]) ∧ w' = w := by
  have F : Hid (mulV a b = (0, 2)) := by show mulV a b = _; simp [mulV, hn]
  rcases Bool.eq_false_or_eq_true (num a) with h | h
  · have k : num b = false := by simpa [h] using hn
    clear hn
    go_enter Try.func43, Try.ntmps43
    go_wp2_with (go_at_call 44; refine (rnum_any _ _).mono ?_; rintro e w' ⟨rfl, rfl⟩)
    go_ret2
    refine ⟨?_, rfl⟩
    rw [F.out]; rfl
  · rcases Bool.eq_false_or_eq_true (num b) with k | k
    all_goals
      clear hn
      go_enter Try.func43, Try.ntmps43
      go_wp2_with (go_at_call 44; refine (rnum_any _ _).mono ?_; rintro e w' ⟨rfl, rfl⟩)
      go_ret2
      refine ⟨?_, rfl⟩
      rw [F.out]; rfl

theorem rmul_zero (a b : Int) (w : World) (h : num a = true) (k : num b = true) (hz : a = 0 ∨ b = 0) :
    Calls Try.prog 43 #[.int .i64 a, .int .i64 b] w fun e w' => e = .returned (.tuple #[.int .i64 (mulV a b).1, .int .i64 (mulV a b).2]) ∧ w' = w := by
  have F : Hid (mulV a b = (0, 0)) := by
    show mulV a b = _
    have : a * b = 0 := by rcases hz with rfl | rfl <;> simp
    simp [mulV, told, h, k, this]; decide
  rcases hz with rfl | rfl
  · go_enter Try.func43, Try.ntmps43
    go_wp2_with (go_at_call 44; refine (rnum_any _ _).mono ?_; rintro e w' ⟨rfl, rfl⟩)
    go_ret2
    refine ⟨?_, rfl⟩
    rw [F.out]; rfl
  · by_cases h0 : a = 0
    · subst h0
      go_enter Try.func43, Try.ntmps43
      go_wp2_with (go_at_call 44; refine (rnum_any _ _).mono ?_; rintro e w' ⟨rfl, rfl⟩)
      go_ret2
      refine ⟨?_, rfl⟩
      rw [F.out]; rfl
    · have h0' : (a == 0) = false := by simpa using h0
      go_enter Try.func43, Try.ntmps43
      go_wp2_with (go_at_call 44; refine (rnum_any _ _).mono ?_; rintro e w' ⟨rfl, rfl⟩)
      go_ret2
      refine ⟨?_, rfl⟩
      rw [F.out]; rfl

set_option maxHeartbeats 1000000 in
theorem rmul_yes (a b : Int) (x y : Nat) (hx0 : 0 < x) (hy0 : 0 < y) (ha : a = x ∨ (a = -x ∧ 0 < x)) (hb : b = y ∨ (b = -y ∧ 0 < y)) (w : World) (h : num a = true) (k : num b = true) :
    Calls Try.prog 43 #[.int .i64 a, .int .i64 b] w fun e w' => e = .returned (.tuple #[.int .i64 (mulV a b).1, .int .i64 (mulV a b).2]) ∧ w' = w := by
  obtain ⟨h1, h2⟩ := num_true h
  obtain ⟨k1, k2⟩ := num_true k
  have E := ediv_lt x y 1152921504606846976 hy0
  have z1 : (a == 0) = false := by simp; omega
  have z2 : (b == 0) = false := by simp; omega
  rcases Nat.lt_or_ge 1152921504606846976 (x * y) with hp | hp
  · have F : Hid (mulV a b = (0, 2)) := by
      show mulV a b = _
      have hp' : 1152921504606846976 < (x : Int) * y := by rw [← Int.natCast_mul]; omega
      have : num (a * b) = false := by
        unfold num
        rw [decide_eq_false_iff_not]
        rcases ha with rfl | ⟨rfl, hx⟩ <;> rcases hb with rfl | ⟨rfl, hy⟩ <;> (try simp only [Int.neg_mul, Int.mul_neg, Int.neg_neg]) <;> omega
      simp [mulV, told, h, k, this]
    have E' : 1152921504606846976 / (y : Int) < x := by
      have := of_decide_eq_true (E.trans (decide_eq_true hp)); exact this
    clear E hp
    rcases ha with rfl | ⟨rfl, hx⟩ <;> rcases hb with rfl | ⟨rfl, hy⟩
    all_goals
      go_enter Try.func43, Try.ntmps43
      go_wp2_with (go_at_call 44; refine (rnum_any _ _).mono ?_; rintro e w' ⟨rfl, rfl⟩)
      go_ret2
      refine ⟨?_, rfl⟩
      rw [F.out]; rfl
  · have hp' : (x : Int) * y ≤ 1152921504606846976 := by rw [← Int.natCast_mul]; omega
    have hp0 : 0 ≤ (x : Int) * y := by rw [← Int.natCast_mul]; omega
    have P : -1152921504606846976 ≤ a * b ∧ a * b ≤ 1152921504606846976 := by
      rcases ha with rfl | ⟨rfl, _⟩ <;> rcases hb with rfl | ⟨rfl, _⟩ <;> (try simp only [Int.neg_mul, Int.mul_neg, Int.neg_neg]) <;> omega
    obtain ⟨P1, P2⟩ := P
    have F : Hid (mulV a b = (a * b, 0)) := by
      show mulV a b = _
      have : num (a * b) = true := num_mk P1 P2
      simp [mulV, told, h, k, this]
    have E' : ¬ 1152921504606846976 / (y : Int) < x := of_decide_eq_false (E.trans (decide_eq_false (by omega)))
    clear E hp
    rcases ha with rfl | ⟨rfl, hx⟩ <;> rcases hb with rfl | ⟨rfl, hy⟩
    all_goals
      go_enter Try.func43, Try.ntmps43
      go_wp2_with (go_at_call 44; refine (rnum_any _ _).mono ?_; rintro e w' ⟨rfl, rfl⟩)
      go_ret2
      refine ⟨?_, rfl⟩
      rw [F.out]; rfl

theorem rmul_any (a b : Int) (w : World) :
    Calls Try.prog 43 #[.int .i64 a, .int .i64 b] w fun e w' => e = .returned (.tuple #[.int .i64 (mulV a b).1, .int .i64 (mulV a b).2]) ∧ w' = w := by
  rcases Bool.eq_false_or_eq_true (num a) with h | h
  · rcases Bool.eq_false_or_eq_true (num b) with k | k
    · by_cases hz : a = 0 ∨ b = 0
      · exact rmul_zero a b w h k hz
      · obtain ⟨x, hx⟩ : ∃ x : Nat, a = x ∨ (a = -x ∧ 0 < x) := ⟨a.natAbs, by omega⟩
        obtain ⟨y, hy⟩ : ∃ y : Nat, b = y ∨ (b = -y ∧ 0 < y) := ⟨b.natAbs, by omega⟩
        exact rmul_yes a b x y (by omega) (by omega) hx hy w h k
    · exact rmul_no a b w (by simp [k])
  · exact rmul_no a b w (by simp [h])

end Go.Proofs.Ytjiidjcehhdnbaa

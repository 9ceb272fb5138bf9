/- Contracts of the functions of chapter 1 (words and numbers), and of its references. -/
import Derived.Test.YtfinpgkehjbcpaaChecked
import Derived.Test.YtfinpgkehjbcpaaWPlain
import Derived.Handy
import Derived.Lib.Hide
import Derived.Lib.Mul64
import Derived.Laws.Bits64b
import Derived.RegionTactic
import Derived.Deep.QuietTactic
import Derived.BigQuiet
import Derived.Outline
import Derived.Test.YtfinpgkehjbcpaaWBits
namespace Go.Proofs.Ytfinpgkehjbcpaa
open Go.ChangeShapes Go.WideShapes Go.ChangeAt Go.RowKit

/-- the world but for draws -/
def Drew (w w' : World) : Prop := ∃ n, w' = w.drewN n
theorem Drew.refl (w : World) : Drew w w := ⟨0, rfl⟩

theorem in_any (n lo hi : Int) (w : World) :
    Calls Try.prog 92 #[.int .i64 n, .int .i64 lo, .int .i64 hi] w fun e w' => e = .returned (.bool (decide (lo ≤ n) && decide (n ≤ hi))) ∧ w' = w := by
  by_cases h : lo ≤ n
  · go_enter Try.func92, Try.ntmps92
    go_wp2
    go_ret
    refine ⟨?_, rfl⟩
    simp [h]
  · go_enter Try.func92, Try.ntmps92
    go_wp2
    go_ret
    refine ⟨?_, rfl⟩
    have h : ¬ lo ≤ n := by omega
    simp [h]

end Go.Proofs.Ytfinpgkehjbcpaa
/- More contracts of chapter 1: remainders, products, words. -/
namespace Go.Proofs.Ytfinpgkehjbcpaa
open Go.ChangeShapes Go.WideShapes Go.ChangeAt Go.RowKit Go.Lib

theorem maskN (a : Nat) (ha : a < 18446744073709551616) : bits .and .u64 (a : Int) 4294967295 = ((a % 4294967296 : Nat) : Int) := by
  have h := bits_and_u64_nat a 4294967295 ha (by omega)
  have e : a &&& 4294967295 = a % 4294967296 := Nat.and_two_pow_sub_one_eq_mod a 32
  rw [e] at h
  exact h
theorem divN (a : Nat) : (a : Int) / 4294967296 = ((a / 4294967296 : Nat) : Int) := by omega
theorem mulN (a b : Nat) : (a : Int) * (b : Int) = ((a * b : Nat) : Int) := (Int.natCast_mul a b).symm
theorem addN (a b : Nat) : (a : Int) + (b : Int) = ((a + b : Nat) : Int) := (Int.natCast_add a b).symm
theorem wrapN (a : Nat) (ha : a < 18446744073709551616) : IntKind.u64.wrap (a : Int) = (a : Int) := by rw [IntKind.wrap_u64]; omega
theorem wrapM (a : Nat) : IntKind.u64.wrap (a : Int) = ((a % 18446744073709551616 : Nat) : Int) := by rw [IntKind.wrap_u64]; omega

set_option maxHeartbeats 1000000 in
theorem told_nat (p : Nat) (h : p ≤ 1152921504606846976) : num (p : Int) = true := num_mk (by omega) (by omega)

set_option maxHeartbeats 2000000 in
theorem ediv_lt (x y : Nat) (m : Nat) (hy : 0 < y) : (decide ((m : Int) / y < x)) = decide (m < x * y) := by
  rw [decide_eq_decide]
  have := Nat.div_lt_iff_lt_mul (x := m) (y := x) hy
  rw [← Int.natCast_ediv]; omega

end Go.Proofs.Ytfinpgkehjbcpaa
/- Contracts of chapter 1: small integers and pointers as words; the document's examples. -/
namespace Go.Proofs.Ytfinpgkehjbcpaa
open Go.ChangeShapes Go.WideShapes Go.ChangeAt Go.RowKit Go.Lib

def smallV (n : Int) : Int × Bool := if -1073741824 ≤ n ∧ n ≤ 1073741823 then (2 * n + 1, true) else (0, false)
def isSmallV (w : Int) : Bool := decide (-2147483647 ≤ w ∧ w ≤ 2147483647 ∧ w % 2 = 1)
def valueV (w : Int) : Int := if isSmallV w then w / 2 else 0
def pointerV (n : Int) : Int × Bool := if 3 ≤ n ∧ n ≤ 131072 then (2 * n, true) else (0, false)
def isPointerV (w : Int) : Bool := decide (6 ≤ w ∧ w ≤ 262144 ∧ w % 2 = 0)
def addressV (w : Int) : Int := if isPointerV w then w / 2 else 0

theorem small_any (n : Int) (w : World) :
    Calls Try.prog 83 #[.int .i64 n] w fun e w' => e = .returned (.tuple #[.int .i64 (smallV n).1, .bool (smallV n).2]) ∧ w' = w := by
  by_cases h : -1073741824 ≤ n ∧ n ≤ 1073741823
  · have F : Hid (smallV n = (2 * n + 1, true)) := by show smallV n = _; simp [smallV, h]
    obtain ⟨h1, h2⟩ := h
    have B := or_1 n h1 h2
    go_enter Try.func83, Try.ntmps83
    go_wp2_with (go_at_call 92; refine (in_any _ _ _ _).mono ?_; rintro e w' ⟨rfl, rfl⟩)
    go_ret2
    refine ⟨?_, rfl⟩
    rw [F.out]; rfl
  · have F : Hid (smallV n = (0, false)) := by show smallV n = _; simp [smallV, h]
    have d : (decide (-1073741824 ≤ n) && decide (n ≤ 1073741823)) = false := by simp; omega
    go_enter Try.func83, Try.ntmps83
    go_wp2_with (go_at_call 92; refine (in_any _ _ _ _).mono ?_; rw [d]; rintro e w' ⟨rfl, rfl⟩)
    go_ret2
    refine ⟨?_, rfl⟩
    rw [F.out]; rfl

theorem rsmall_any (n : Int) (w : World) :
    Calls Try.prog 91 #[.int .i64 n] w fun e w' => e = .returned (.tuple #[.int .i64 (smallV n).1, .bool (smallV n).2]) ∧ w' = w := by
  by_cases h : -1073741824 ≤ n
  · by_cases h' : n ≤ 1073741823
    · have F : Hid (smallV n = (2 * n + 1, true)) := by show smallV n = _; simp [smallV, h, h']
      go_enter Try.func91, Try.ntmps91
      go_wp2
      go_ret2
      refine ⟨?_, rfl⟩
      rw [F.out]; rfl
    · have F : Hid (smallV n = (0, false)) := by show smallV n = _; simp [smallV, h']
      go_enter Try.func91, Try.ntmps91
      go_wp2
      go_ret2
      refine ⟨?_, rfl⟩
      rw [F.out]; rfl
  · have F : Hid (smallV n = (0, false)) := by show smallV n = _; simp [smallV, h]
    go_enter Try.func91, Try.ntmps91
    go_wp2
    go_ret2
    refine ⟨?_, rfl⟩
    rw [F.out]; rfl

theorem pointer_any (n : Int) (w : World) :
    Calls Try.prog 64 #[.int .i64 n] w fun e w' => e = .returned (.tuple #[.int .i64 (pointerV n).1, .bool (pointerV n).2]) ∧ w' = w := by
  by_cases h : 3 ≤ n ∧ n ≤ 131072
  · have F : Hid (pointerV n = (n * 2, true)) := by show pointerV n = _; simp [pointerV, h]; omega
    obtain ⟨h1, h2⟩ := h
    go_enter Try.func64, Try.ntmps64
    go_wp2_with (go_at_call 92; refine (in_any _ _ _ _).mono ?_; rintro e w' ⟨rfl, rfl⟩)
    go_ret2
    refine ⟨?_, rfl⟩
    rw [F.out]; rfl
  · have F : Hid (pointerV n = (0, false)) := by show pointerV n = _; simp [pointerV, h]
    have d : (decide (3 ≤ n) && decide (n ≤ 131072)) = false := by simp; omega
    go_enter Try.func64, Try.ntmps64
    go_wp2_with (go_at_call 92; refine (in_any _ _ _ _).mono ?_; rw [d]; rintro e w' ⟨rfl, rfl⟩)
    go_ret2
    refine ⟨?_, rfl⟩
    rw [F.out]; rfl

theorem isSmall_any (n : Int) (w : World) :
    Calls Try.prog 69 #[.int .i64 n] w fun e w' => e = .returned (.bool (isSmallV n)) ∧ w' = w := by
  by_cases hp : n % 2 = 1
  · have B : bits .and .i64 n 1 = 1 := by rw [and_1]; exact hp
    have F : Hid ((decide (-1073741824 ≤ n / 2) && decide (n / 2 ≤ 1073741823)) = isSmallV n) := by
      show _ = isSmallV n
      unfold isSmallV; rw [← Bool.decide_and, decide_eq_decide]; omega
    clear hp
    go_enter Try.func69, Try.ntmps69
    go_wp2_with (go_at_call 92; refine (in_any _ _ _ _).mono ?_; rw [F.out]; rintro e w' ⟨rfl, rfl⟩)
    go_ret
    exact ⟨rfl, rfl⟩
  · have B : bits .and .i64 n 1 = 0 := by rw [and_1]; omega
    have F : Hid (isSmallV n = false) := by show isSmallV n = _; simp [isSmallV, hp]
    clear hp
    go_enter Try.func69, Try.ntmps69
    go_wp2
    go_ret
    refine ⟨?_, rfl⟩
    rw [F.out]; rfl

theorem tmod2 (n : Int) : (n.tmod 2 != 0) = decide (n % 2 = 1) := by
  rw [Bool.eq_iff_iff, bne_iff_ne, decide_eq_true_iff]
  have := Int.dvd_iff_tmod_eq_zero (a := 2) (b := n)
  have := Int.dvd_iff_emod_eq_zero (a := 2) (b := n)
  constructor
  · intro h
    have : ¬ n % 2 = 0 := fun g => h (by simp_all)
    omega
  · intro h g
    have : n % 2 = 0 := by simp_all
    omega

theorem risSmall_any (n : Int) (w : World) :
    Calls Try.prog 79 #[.int .i64 n] w fun e w' => e = .returned (.bool (isSmallV n)) ∧ w' = w := by
  have T := tmod2 n
  by_cases h1 : -2147483647 ≤ n
  · by_cases h2 : n ≤ 2147483647
    · have F : Hid (isSmallV n = decide (n % 2 = 1)) := by show isSmallV n = _; simp [isSmallV, h1, h2]
      go_enter Try.func79, Try.ntmps79
      go_wp2
      go_ret
      refine ⟨?_, rfl⟩
      rw [F.out]; rfl
    · have F : Hid (isSmallV n = false) := by show isSmallV n = _; simp [isSmallV, h2]
      go_enter Try.func79, Try.ntmps79
      go_wp2
      go_ret
      refine ⟨?_, rfl⟩
      rw [F.out]; rfl
  · have F : Hid (isSmallV n = false) := by show isSmallV n = _; simp [isSmallV, h1]
    go_enter Try.func79, Try.ntmps79
    go_wp2
    go_ret
    refine ⟨?_, rfl⟩
    rw [F.out]; rfl

theorem value_any (n : Int) (w : World) :
    Calls Try.prog 77 #[.int .i64 n] w fun e w' => e = .returned (.int .i64 (valueV n)) ∧ w' = w := by
  rcases Bool.eq_false_or_eq_true (isSmallV n) with h | h
  all_goals
    go_enter Try.func77, Try.ntmps77
    go_wp2_with (go_at_call 69; refine (isSmall_any _ _).mono ?_; rintro e w' ⟨rfl, rfl⟩)
    go_ret
    refine ⟨?_, rfl⟩
    simp [valueV, h]

theorem rvalue_any (n : Int) (w : World) :
    Calls Try.prog 80 #[.int .i64 n] w fun e w' => e = .returned (.int .i64 (valueV n)) ∧ w' = w := by
  rcases Bool.eq_false_or_eq_true (isSmallV n) with h | h
  · have h' := of_decide_eq_true h
    obtain ⟨h1, h2, h3⟩ := h'
    have T : (n - 1).tdiv 2 = n / 2 := by
      obtain ⟨k, rfl⟩ : ∃ k, n = 2 * k + 1 := ⟨n / 2, by omega⟩
      rw [show 2 * k + 1 - 1 = 2 * k from by omega, Int.mul_tdiv_cancel_left _ (by omega)]; omega
    clear h3
    go_enter Try.func80, Try.ntmps80
    go_wp2_with (go_at_call 79; refine (risSmall_any _ _).mono ?_; rintro e w' ⟨rfl, rfl⟩)
    go_ret
    refine ⟨?_, rfl⟩
    simp [valueV, h]
  · go_enter Try.func80, Try.ntmps80
    go_wp2_with (go_at_call 79; refine (risSmall_any _ _).mono ?_; rintro e w' ⟨rfl, rfl⟩)
    go_ret
    refine ⟨?_, rfl⟩
    simp [valueV, h]

theorem isPointer_any (n : Int) (w : World) :
    Calls Try.prog 78 #[.int .i64 n] w fun e w' => e = .returned (.bool (isPointerV n)) ∧ w' = w := by
  by_cases hp : n % 2 = 0
  · have B : bits .and .i64 n 1 = 0 := by rw [and_1]; exact hp
    have F : Hid ((decide (3 ≤ n / 2) && decide (n / 2 ≤ 131072)) = isPointerV n) := by
      show _ = isPointerV n
      unfold isPointerV; rw [← Bool.decide_and, decide_eq_decide]; omega
    clear hp
    go_enter Try.func78, Try.ntmps78
    go_wp2_with (go_at_call 92; refine (in_any _ _ _ _).mono ?_; rw [F.out]; rintro e w' ⟨rfl, rfl⟩)
    go_ret
    exact ⟨rfl, rfl⟩
  · have B : bits .and .i64 n 1 = 1 := by rw [and_1]; omega
    have F : Hid (isPointerV n = false) := by show isPointerV n = _; simp [isPointerV]; omega
    clear hp
    go_enter Try.func78, Try.ntmps78
    go_wp2
    go_ret
    refine ⟨?_, rfl⟩
    rw [F.out]; rfl

theorem address_any (n : Int) (w : World) :
    Calls Try.prog 93 #[.int .i64 n] w fun e w' => e = .returned (.int .i64 (addressV n)) ∧ w' = w := by
  rcases Bool.eq_false_or_eq_true (isPointerV n) with h | h
  all_goals
    go_enter Try.func93, Try.ntmps93
    go_wp2_with (go_at_call 78; refine (isPointer_any _ _).mono ?_; rintro e w' ⟨rfl, rfl⟩)
    go_ret
    refine ⟨?_, rfl⟩
    simp [addressV, h]

theorem Grown.trans {a b c : World} (h : Grown a b) (k : Grown b c) : Grown a c :=
  ⟨World.keptBut_trans h.1 k.1, fun x => (k.2.1 x).trans (h.2.1 x), Nat.le_trans h.2.2 k.2.2⟩
theorem Grown.drewN {a b : World} (h : Grown a b) (n : Nat) : Grown a (b.drewN n) := h
theorem Drew.grown {a b : World} (h : Drew a b) : Grown a b := by obtain ⟨n, rfl⟩ := h; exact Grown.drewN (Grown.refl _) n

end Go.Proofs.Ytfinpgkehjbcpaa

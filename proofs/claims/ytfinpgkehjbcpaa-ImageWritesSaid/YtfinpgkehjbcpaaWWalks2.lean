/- More contracts of chapter 1: remainders, products, words. -/
import Derived.Test.YtfinpgkehjbcpaaWWalks
import Derived.Test.YtfinpgkehjbcpaaWBits
namespace Go.Proofs.Ytfinpgkehjbcpaa
open Go.ChangeShapes Go.WideShapes Go.ChangeAt Go.RowKit Go.Lib

theorem maskN (a : Nat) (ha : a < 18446744073709551616) : bits .and .u64 (a : Int) 4294967295 = ((a % 4294967296 : Nat) : Int) := by
  have h := bits_and_u64_nat a 4294967295 ha (by omega)
  have e : a &&& 4294967295 = a % 4294967296 := Nat.and_two_pow_sub_one_eq_mod a 32
  rw [e] at h
  exact h
theorem divN (a : Nat) : (a : Int) / 4294967296 = ((a / 4294967296 : Nat) : Int) := by omega
theorem mulN (a b : Nat) : (a : Int) * (b : Int) = ((a * b : Nat) : Int) := (Int.natCast_mul a b).symm
theorem addN (a b : Nat) : (a : Int) + (b : Int) = ((a + b : Nat) : Int) := (Int.natCast_add a b).symm
theorem wrapN (a : Nat) (ha : a < 18446744073709551616) : IntKind.u64.wrap (a : Int) = (a : Int) := by rw [IntKind.wrap_u64]; omega
theorem wrapM (a : Nat) : IntKind.u64.wrap (a : Int) = ((a % 18446744073709551616 : Nat) : Int) := by rw [IntKind.wrap_u64]; omega

set_option maxHeartbeats 1000000 in
theorem told_nat (p : Nat) (h : p ≤ 1152921504606846976) : num (p : Int) = true := num_mk (by omega) (by omega)

set_option maxHeartbeats 2000000 in
theorem ediv_lt (x y : Nat) (m : Nat) (hy : 0 < y) : (decide ((m : Int) / y < x)) = decide (m < x * y) := by
  rw [decide_eq_decide]
  have := Nat.div_lt_iff_lt_mul (x := m) (y := x) hy
  rw [← Int.natCast_ediv]; omega

end Go.Proofs.Ytfinpgkehjbcpaa

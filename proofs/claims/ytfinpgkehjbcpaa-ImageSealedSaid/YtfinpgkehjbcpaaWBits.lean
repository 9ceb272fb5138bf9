/- Plain laws on the bits of whole numbers of 64 bits: no program in sight. -/
import Derived.WalkKit
namespace Go.Proofs.Ytfinpgkehjbcpaa

theorem ofInt_toNat (a : Int) : (BitVec.ofInt 64 a).toNat = (a % 18446744073709551616).toNat := by
  rw [BitVec.toNat_ofInt]; rfl

theorem and_nat (a : Int) (m : Nat) (hm : m < 9223372036854775808) : bits .and .i64 a (m : Int) = (((a % 18446744073709551616).toNat &&& m : Nat) : Int) := by
  have h2 : (BitVec.ofInt 64 (m : Int)).toNat = m := by
    rw [BitVec.ofInt_natCast, BitVec.toNat_ofNat]; exact Nat.mod_eq_of_lt (by omega)
  show IntKind.i64.wrap ((BitVec.ofInt 64 a &&& BitVec.ofInt 64 (m : Int)).toNat : Int) = _
  have hx : (a % 18446744073709551616).toNat &&& m ≤ m := Nat.and_le_right
  rw [BitVec.toNat_and, ofInt_toNat, h2, IntWalk.i64_in _ ⟨by omega, by omega⟩]

theorem and_1 (a : Int) : bits .and .i64 a 1 = a % 2 := by
  have h := and_nat a 1 (by omega)
  rw [Nat.and_one_is_mod] at h
  rw [show (1 : Int) = ((1 : Nat) : Int) from rfl, h]; omega

theorem or_nat (a b : Int) : bits .or .i64 a b = IntKind.i64.wrap (((a % 18446744073709551616).toNat ||| (b % 18446744073709551616).toNat : Nat) : Int) := by
  show IntKind.i64.wrap ((BitVec.ofInt 64 a ||| BitVec.ofInt 64 b).toNat : Int) = _
  rw [BitVec.toNat_or, ofInt_toNat, ofInt_toNat]

theorem or_1 (n : Int) (h1 : -1073741824 ≤ n) (h2 : n ≤ 1073741823) : bits .or .i64 (n * 2) 1 = 2 * n + 1 := by
  rw [or_nat]
  have e : (n * 2 % 18446744073709551616).toNat ||| ((1 : Int) % 18446744073709551616).toNat = (n * 2 % 18446744073709551616).toNat + 1 := nat_join 1 _ _ (by omega) (by decide)
  rw [e, IntKind.wrap_i64]
  omega

end Go.Proofs.Ytfinpgkehjbcpaa

/- Chapter 05, plain: counts, numbers and sums as bytes. -/
import Derived.Test.YtfinpgkehjbcpaaHPlain
namespace Go.Proofs.Ytfinpgkehjbcpaa
set_option linter.unusedVariables false
set_option linter.unusedSimpArgs false
/-- a count as bytes -/
def cntV (n : Nat) : List Int := if h : n < 128 then [(n : Int)] else (((n % 128 + 128 : Nat) : Int)) :: cntV (n / 128)
termination_by n
decreasing_by omega
theorem cnt_small {n : Nat} (h : n < 128) : cntV n = [(n : Int)] := by rw [cntV, dif_pos h]
theorem cnt_big {n : Nat} (h : ¬ n < 128) : cntV n = ((n % 128 + 128 : Nat) : Int) :: cntV (n / 128) := by rw [cntV, dif_neg h]
theorem cnt_len : ∀ (k n : Nat), n < 128 ^ (k + 1) → (cntV n).length ≤ k + 1
  | 0, n, h => by rw [cnt_small (by omega)]; simp
  | k + 1, n, h => by
    by_cases h1 : n < 128
    · rw [cnt_small h1]; simp
    · rw [cnt_big h1]
      have := cnt_len k (n / 128) (by rw [Nat.pow_succ] at h; omega)
      simp; omega
theorem cnt_len9 {n : Nat} (h : n < 9223372036854775808) : (cntV n).length ≤ 9 := cnt_len 8 n (by omega)
theorem cnt_pos (n : Nat) : 0 < (cntV n).length := by
  by_cases h1 : n < 128
  · rw [cnt_small h1]; simp
  · rw [cnt_big h1]; simp
/-- a number as a count -/
def foldV (n : Int) : Nat := if n < 0 then (-2 * n - 1).toNat else (2 * n).toNat
def unfV (c : Nat) : Int := if c % 2 = 1 then -((c / 2 : Nat) : Int) - 1 else ((c / 2 : Nat) : Int)
theorem unf_fold (n : Int) : unfV (foldV n) = n := by
  unfold foldV unfV
  split
  · rw [if_pos (by omega)]; omega
  · rw [if_neg (by omega)]; omega
theorem fold_unf (c : Nat) : foldV (unfV c) = c := by
  unfold foldV unfV
  split
  · rename_i h
    split
    · omega
    · omega
  · rename_i h
    split
    · omega
    · omega
/-- the sum of bytes -/
def sumV (l : List Int) : Int := l.foldl (fun s c => (31 * s + c) % 4294967296) 1
theorem sum_snoc (l : List Int) (c : Int) : sumV (l ++ [c]) = (31 * sumV l + c) % 4294967296 := by unfold sumV; rw [List.foldl_append]; rfl
theorem sum_bd (l : List Int) : 0 ≤ sumV l ∧ sumV l < 4294967296 := by
  rcases List.eq_nil_or_concat l with rfl | ⟨r, c, rfl⟩
  · decide
  · rw [List.concat_eq_append, sum_snoc]; omega
/-- the sum's four bytes -/
def tailV (s : Int) : List Int := [s % 256, s / 256 % 256, s / 65536 % 256, s / 16777216 % 256]
def sealV (l : List Int) : List Int := l ++ tailV (sumV l)
end Go.Proofs.Ytfinpgkehjbcpaa

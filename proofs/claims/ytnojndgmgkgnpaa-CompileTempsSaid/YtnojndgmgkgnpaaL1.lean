/- Contracts of the leaves: what an instruction uses, where it leads, by how much the stack grows. -/
import Derived.Test.YtnojndgmgkgnpaaBase
namespace Go.Proofs.Ytnojndgmgkgnpaa.Lv
open Go.ChangeShapes Go.WideShapes Go.ChangeAt Go.RowKit
set_option linter.unusedVariables false
set_option linter.unusedSimpArgs false

theorem ret_int {k : IntKind} {a b : Int} (h : a = b) : Ending.returned (.int k a) = .returned (.int k b) := by rw [h]
theorem ret_bool {a b : Bool} (h : a = b) : Ending.returned (.bool a) = .returned (.bool b) := by rw [h]
theorem ret_bb {a b c d : Bool} (h : a = b) (h' : c = d) : Ending.returned (.tuple #[.bool a, .bool c]) = .returned (.tuple #[.bool b, .bool d]) := by rw [h, h']
theorem uses_zero {op : Int} (h : op < 1 ∨ 20 < op) : usesV op = 0 := by unfold usesV; rw [if_neg (by omega), if_neg (by omega)]
theorem op_cases (op : Int) : op = 1 ∨ op = 2 ∨ op = 3 ∨ op = 4 ∨ op = 5 ∨ op = 6 ∨ op = 7 ∨ op = 8 ∨ op = 9 ∨ op = 10 ∨ op = 11 ∨ op = 12 ∨ op = 13 ∨ op = 14 ∨ op = 15 ∨ op = 16 ∨ op = 17 ∨ op = 18 ∨ op = 19 ∨ op = 20 ∨ (op < 1 ∨ 20 < op) := by omega

theorem uses_1  (w : World)  : Calls Try.prog 46 #[.int .i64 1] w fun e w' => e = .returned (.tuple #[.bool (decide (0 < usesV 1)), .bool (decide (1 < usesV 1))]) ∧ w' = w := by
 go_enter Try.func46, Try.ntmps46
 go_wp2
 go_ret2
 exact ⟨ret_bb (by first | (simp [usesV]; done) | (rw [uses_zero HO.out]; rfl)) (by first | (simp [usesV]; done) | (rw [uses_zero HO.out]; rfl)), rfl⟩
theorem uses_2  (w : World)  : Calls Try.prog 46 #[.int .i64 2] w fun e w' => e = .returned (.tuple #[.bool (decide (0 < usesV 2)), .bool (decide (1 < usesV 2))]) ∧ w' = w := by
 go_enter Try.func46, Try.ntmps46
 go_wp2
 go_ret2
 exact ⟨ret_bb (by first | (simp [usesV]; done) | (rw [uses_zero HO.out]; rfl)) (by first | (simp [usesV]; done) | (rw [uses_zero HO.out]; rfl)), rfl⟩
theorem uses_3  (w : World)  : Calls Try.prog 46 #[.int .i64 3] w fun e w' => e = .returned (.tuple #[.bool (decide (0 < usesV 3)), .bool (decide (1 < usesV 3))]) ∧ w' = w := by
 go_enter Try.func46, Try.ntmps46
 go_wp2
 go_ret2
 exact ⟨ret_bb (by first | (simp [usesV]; done) | (rw [uses_zero HO.out]; rfl)) (by first | (simp [usesV]; done) | (rw [uses_zero HO.out]; rfl)), rfl⟩
theorem uses_4  (w : World)  : Calls Try.prog 46 #[.int .i64 4] w fun e w' => e = .returned (.tuple #[.bool (decide (0 < usesV 4)), .bool (decide (1 < usesV 4))]) ∧ w' = w := by
 go_enter Try.func46, Try.ntmps46
 go_wp2
 go_ret2
 exact ⟨ret_bb (by first | (simp [usesV]; done) | (rw [uses_zero HO.out]; rfl)) (by first | (simp [usesV]; done) | (rw [uses_zero HO.out]; rfl)), rfl⟩
theorem uses_5  (w : World)  : Calls Try.prog 46 #[.int .i64 5] w fun e w' => e = .returned (.tuple #[.bool (decide (0 < usesV 5)), .bool (decide (1 < usesV 5))]) ∧ w' = w := by
 go_enter Try.func46, Try.ntmps46
 go_wp2
 go_ret2
 exact ⟨ret_bb (by first | (simp [usesV]; done) | (rw [uses_zero HO.out]; rfl)) (by first | (simp [usesV]; done) | (rw [uses_zero HO.out]; rfl)), rfl⟩
theorem uses_6  (w : World)  : Calls Try.prog 46 #[.int .i64 6] w fun e w' => e = .returned (.tuple #[.bool (decide (0 < usesV 6)), .bool (decide (1 < usesV 6))]) ∧ w' = w := by
 go_enter Try.func46, Try.ntmps46
 go_wp2
 go_ret2
 exact ⟨ret_bb (by first | (simp [usesV]; done) | (rw [uses_zero HO.out]; rfl)) (by first | (simp [usesV]; done) | (rw [uses_zero HO.out]; rfl)), rfl⟩
theorem uses_7  (w : World)  : Calls Try.prog 46 #[.int .i64 7] w fun e w' => e = .returned (.tuple #[.bool (decide (0 < usesV 7)), .bool (decide (1 < usesV 7))]) ∧ w' = w := by
 go_enter Try.func46, Try.ntmps46
 go_wp2
 go_ret2
 exact ⟨ret_bb (by first | (simp [usesV]; done) | (rw [uses_zero HO.out]; rfl)) (by first | (simp [usesV]; done) | (rw [uses_zero HO.out]; rfl)), rfl⟩
theorem uses_8  (w : World)  : Calls Try.prog 46 #[.int .i64 8] w fun e w' => e = .returned (.tuple #[.bool (decide (0 < usesV 8)), .bool (decide (1 < usesV 8))]) ∧ w' = w := by
 go_enter Try.func46, Try.ntmps46
 go_wp2
 go_ret2
 exact ⟨ret_bb (by first | (simp [usesV]; done) | (rw [uses_zero HO.out]; rfl)) (by first | (simp [usesV]; done) | (rw [uses_zero HO.out]; rfl)), rfl⟩
theorem uses_9  (w : World)  : Calls Try.prog 46 #[.int .i64 9] w fun e w' => e = .returned (.tuple #[.bool (decide (0 < usesV 9)), .bool (decide (1 < usesV 9))]) ∧ w' = w := by
 go_enter Try.func46, Try.ntmps46
 go_wp2
 go_ret2
 exact ⟨ret_bb (by first | (simp [usesV]; done) | (rw [uses_zero HO.out]; rfl)) (by first | (simp [usesV]; done) | (rw [uses_zero HO.out]; rfl)), rfl⟩
theorem uses_10  (w : World)  : Calls Try.prog 46 #[.int .i64 10] w fun e w' => e = .returned (.tuple #[.bool (decide (0 < usesV 10)), .bool (decide (1 < usesV 10))]) ∧ w' = w := by
 go_enter Try.func46, Try.ntmps46
 go_wp2
 go_ret2
 exact ⟨ret_bb (by first | (simp [usesV]; done) | (rw [uses_zero HO.out]; rfl)) (by first | (simp [usesV]; done) | (rw [uses_zero HO.out]; rfl)), rfl⟩
theorem uses_11  (w : World)  : Calls Try.prog 46 #[.int .i64 11] w fun e w' => e = .returned (.tuple #[.bool (decide (0 < usesV 11)), .bool (decide (1 < usesV 11))]) ∧ w' = w := by
 go_enter Try.func46, Try.ntmps46
 go_wp2
 go_ret2
 exact ⟨ret_bb (by first | (simp [usesV]; done) | (rw [uses_zero HO.out]; rfl)) (by first | (simp [usesV]; done) | (rw [uses_zero HO.out]; rfl)), rfl⟩
theorem uses_12  (w : World)  : Calls Try.prog 46 #[.int .i64 12] w fun e w' => e = .returned (.tuple #[.bool (decide (0 < usesV 12)), .bool (decide (1 < usesV 12))]) ∧ w' = w := by
 go_enter Try.func46, Try.ntmps46
 go_wp2
 go_ret2
 exact ⟨ret_bb (by first | (simp [usesV]; done) | (rw [uses_zero HO.out]; rfl)) (by first | (simp [usesV]; done) | (rw [uses_zero HO.out]; rfl)), rfl⟩
theorem uses_13  (w : World)  : Calls Try.prog 46 #[.int .i64 13] w fun e w' => e = .returned (.tuple #[.bool (decide (0 < usesV 13)), .bool (decide (1 < usesV 13))]) ∧ w' = w := by
 go_enter Try.func46, Try.ntmps46
 go_wp2
 go_ret2
 exact ⟨ret_bb (by first | (simp [usesV]; done) | (rw [uses_zero HO.out]; rfl)) (by first | (simp [usesV]; done) | (rw [uses_zero HO.out]; rfl)), rfl⟩
theorem uses_14  (w : World)  : Calls Try.prog 46 #[.int .i64 14] w fun e w' => e = .returned (.tuple #[.bool (decide (0 < usesV 14)), .bool (decide (1 < usesV 14))]) ∧ w' = w := by
 go_enter Try.func46, Try.ntmps46
 go_wp2
 go_ret2
 exact ⟨ret_bb (by first | (simp [usesV]; done) | (rw [uses_zero HO.out]; rfl)) (by first | (simp [usesV]; done) | (rw [uses_zero HO.out]; rfl)), rfl⟩
theorem uses_15  (w : World)  : Calls Try.prog 46 #[.int .i64 15] w fun e w' => e = .returned (.tuple #[.bool (decide (0 < usesV 15)), .bool (decide (1 < usesV 15))]) ∧ w' = w := by
 go_enter Try.func46, Try.ntmps46
 go_wp2
 go_ret2
 exact ⟨ret_bb (by first | (simp [usesV]; done) | (rw [uses_zero HO.out]; rfl)) (by first | (simp [usesV]; done) | (rw [uses_zero HO.out]; rfl)), rfl⟩
theorem uses_16  (w : World)  : Calls Try.prog 46 #[.int .i64 16] w fun e w' => e = .returned (.tuple #[.bool (decide (0 < usesV 16)), .bool (decide (1 < usesV 16))]) ∧ w' = w := by
 go_enter Try.func46, Try.ntmps46
 go_wp2
 go_ret2
 exact ⟨ret_bb (by first | (simp [usesV]; done) | (rw [uses_zero HO.out]; rfl)) (by first | (simp [usesV]; done) | (rw [uses_zero HO.out]; rfl)), rfl⟩
theorem uses_17  (w : World)  : Calls Try.prog 46 #[.int .i64 17] w fun e w' => e = .returned (.tuple #[.bool (decide (0 < usesV 17)), .bool (decide (1 < usesV 17))]) ∧ w' = w := by
 go_enter Try.func46, Try.ntmps46
 go_wp2
 go_ret2
 exact ⟨ret_bb (by first | (simp [usesV]; done) | (rw [uses_zero HO.out]; rfl)) (by first | (simp [usesV]; done) | (rw [uses_zero HO.out]; rfl)), rfl⟩
theorem uses_18  (w : World)  : Calls Try.prog 46 #[.int .i64 18] w fun e w' => e = .returned (.tuple #[.bool (decide (0 < usesV 18)), .bool (decide (1 < usesV 18))]) ∧ w' = w := by
 go_enter Try.func46, Try.ntmps46
 go_wp2
 go_ret2
 exact ⟨ret_bb (by first | (simp [usesV]; done) | (rw [uses_zero HO.out]; rfl)) (by first | (simp [usesV]; done) | (rw [uses_zero HO.out]; rfl)), rfl⟩
theorem uses_19  (w : World)  : Calls Try.prog 46 #[.int .i64 19] w fun e w' => e = .returned (.tuple #[.bool (decide (0 < usesV 19)), .bool (decide (1 < usesV 19))]) ∧ w' = w := by
 go_enter Try.func46, Try.ntmps46
 go_wp2
 go_ret2
 exact ⟨ret_bb (by first | (simp [usesV]; done) | (rw [uses_zero HO.out]; rfl)) (by first | (simp [usesV]; done) | (rw [uses_zero HO.out]; rfl)), rfl⟩
theorem uses_20  (w : World)  : Calls Try.prog 46 #[.int .i64 20] w fun e w' => e = .returned (.tuple #[.bool (decide (0 < usesV 20)), .bool (decide (1 < usesV 20))]) ∧ w' = w := by
 go_enter Try.func46, Try.ntmps46
 go_wp2
 go_ret2
 exact ⟨ret_bb (by first | (simp [usesV]; done) | (rw [uses_zero HO.out]; rfl)) (by first | (simp [usesV]; done) | (rw [uses_zero HO.out]; rfl)), rfl⟩
theorem uses_odd (op : Int)  (w : World)  (ho : op < 1 ∨ 20 < op) : Calls Try.prog 46 #[.int .i64 op] w fun e w' => e = .returned (.tuple #[.bool (decide (0 < usesV op)), .bool (decide (1 < usesV op))]) ∧ w' = w := by
 have n1 : (op == 1) = false := by simp; omega
 have m1 : (op != 1) = true := by simp; omega
 have n2 : (op == 2) = false := by simp; omega
 have m2 : (op != 2) = true := by simp; omega
 have n3 : (op == 3) = false := by simp; omega
 have m3 : (op != 3) = true := by simp; omega
 have n4 : (op == 4) = false := by simp; omega
 have m4 : (op != 4) = true := by simp; omega
 have n5 : (op == 5) = false := by simp; omega
 have m5 : (op != 5) = true := by simp; omega
 have n6 : (op == 6) = false := by simp; omega
 have m6 : (op != 6) = true := by simp; omega
 have n7 : (op == 7) = false := by simp; omega
 have m7 : (op != 7) = true := by simp; omega
 have n8 : (op == 8) = false := by simp; omega
 have m8 : (op != 8) = true := by simp; omega
 have n9 : (op == 9) = false := by simp; omega
 have m9 : (op != 9) = true := by simp; omega
 have n10 : (op == 10) = false := by simp; omega
 have m10 : (op != 10) = true := by simp; omega
 have n11 : (op == 11) = false := by simp; omega
 have m11 : (op != 11) = true := by simp; omega
 have n12 : (op == 12) = false := by simp; omega
 have m12 : (op != 12) = true := by simp; omega
 have n13 : (op == 13) = false := by simp; omega
 have m13 : (op != 13) = true := by simp; omega
 have n14 : (op == 14) = false := by simp; omega
 have m14 : (op != 14) = true := by simp; omega
 have n15 : (op == 15) = false := by simp; omega
 have m15 : (op != 15) = true := by simp; omega
 have n16 : (op == 16) = false := by simp; omega
 have m16 : (op != 16) = true := by simp; omega
 have n17 : (op == 17) = false := by simp; omega
 have m17 : (op != 17) = true := by simp; omega
 have n18 : (op == 18) = false := by simp; omega
 have m18 : (op != 18) = true := by simp; omega
 have n19 : (op == 19) = false := by simp; omega
 have m19 : (op != 19) = true := by simp; omega
 have n20 : (op == 20) = false := by simp; omega
 have m20 : (op != 20) = true := by simp; omega
 have HO := Lib.hid ho
 clear ho
 go_enter Try.func46, Try.ntmps46
 rcases HO.out with ho | ho
 ·have d1 : ¬ 1 ≤ op := by omega
  have d6 : ¬ 6 ≤ op := by omega
  have d14 : ¬ 14 ≤ op := by omega
  go_wp2
  go_ret2
  exact ⟨ret_bb (by first | (simp [usesV]; done) | (rw [uses_zero HO.out]; rfl)) (by first | (simp [usesV]; done) | (rw [uses_zero HO.out]; rfl)), rfl⟩
 ·have d9 : ¬ op ≤ 9 := by omega
  have d11 : ¬ op ≤ 11 := by omega
  have d18 : ¬ op ≤ 18 := by omega
  go_wp2
  go_ret2
  exact ⟨ret_bb (by first | (simp [usesV]; done) | (rw [uses_zero HO.out]; rfl)) (by first | (simp [usesV]; done) | (rw [uses_zero HO.out]; rfl)), rfl⟩
theorem uses_any (op : Int)  (w : World)  : Calls Try.prog 46 #[.int .i64 op] w fun e w' => e = .returned (.tuple #[.bool (decide (0 < usesV op)), .bool (decide (1 < usesV op))]) ∧ w' = w := by
 rcases op_cases op with rfl | rfl | rfl | rfl | rfl | rfl | rfl | rfl | rfl | rfl | rfl | rfl | rfl | rfl | rfl | rfl | rfl | rfl | rfl | rfl | h

 ·exact uses_1  w 
 ·exact uses_2  w 
 ·exact uses_3  w 
 ·exact uses_4  w 
 ·exact uses_5  w 
 ·exact uses_6  w 
 ·exact uses_7  w 
 ·exact uses_8  w 
 ·exact uses_9  w 
 ·exact uses_10  w 
 ·exact uses_11  w 
 ·exact uses_12  w 
 ·exact uses_13  w 
 ·exact uses_14  w 
 ·exact uses_15  w 
 ·exact uses_16  w 
 ·exact uses_17  w 
 ·exact uses_18  w 
 ·exact uses_19  w 
 ·exact uses_20  w 
 ·exact uses_odd op  w  h

theorem ruses_1  (w : World)  : Calls Try.prog 28 #[.int .i64 1] w fun e w' => e = .returned (.int .i64 (usesV 1)) ∧ w' = w := by
 go_enter Try.func28, Try.ntmps28
 go_wp2
 go_ret
 exact ⟨ret_int (by first | (simp [usesV]; done) | (rw [uses_zero HO.out])), rfl⟩
theorem ruses_2  (w : World)  : Calls Try.prog 28 #[.int .i64 2] w fun e w' => e = .returned (.int .i64 (usesV 2)) ∧ w' = w := by
 go_enter Try.func28, Try.ntmps28
 go_wp2
 go_ret
 exact ⟨ret_int (by first | (simp [usesV]; done) | (rw [uses_zero HO.out])), rfl⟩
theorem ruses_3  (w : World)  : Calls Try.prog 28 #[.int .i64 3] w fun e w' => e = .returned (.int .i64 (usesV 3)) ∧ w' = w := by
 go_enter Try.func28, Try.ntmps28
 go_wp2
 go_ret
 exact ⟨ret_int (by first | (simp [usesV]; done) | (rw [uses_zero HO.out])), rfl⟩
theorem ruses_4  (w : World)  : Calls Try.prog 28 #[.int .i64 4] w fun e w' => e = .returned (.int .i64 (usesV 4)) ∧ w' = w := by
 go_enter Try.func28, Try.ntmps28
 go_wp2
 go_ret
 exact ⟨ret_int (by first | (simp [usesV]; done) | (rw [uses_zero HO.out])), rfl⟩
theorem ruses_5  (w : World)  : Calls Try.prog 28 #[.int .i64 5] w fun e w' => e = .returned (.int .i64 (usesV 5)) ∧ w' = w := by
 go_enter Try.func28, Try.ntmps28
 go_wp2
 go_ret
 exact ⟨ret_int (by first | (simp [usesV]; done) | (rw [uses_zero HO.out])), rfl⟩
theorem ruses_6  (w : World)  : Calls Try.prog 28 #[.int .i64 6] w fun e w' => e = .returned (.int .i64 (usesV 6)) ∧ w' = w := by
 go_enter Try.func28, Try.ntmps28
 go_wp2
 go_ret
 exact ⟨ret_int (by first | (simp [usesV]; done) | (rw [uses_zero HO.out])), rfl⟩
theorem ruses_7  (w : World)  : Calls Try.prog 28 #[.int .i64 7] w fun e w' => e = .returned (.int .i64 (usesV 7)) ∧ w' = w := by
 go_enter Try.func28, Try.ntmps28
 go_wp2
 go_ret
 exact ⟨ret_int (by first | (simp [usesV]; done) | (rw [uses_zero HO.out])), rfl⟩
theorem ruses_8  (w : World)  : Calls Try.prog 28 #[.int .i64 8] w fun e w' => e = .returned (.int .i64 (usesV 8)) ∧ w' = w := by
 go_enter Try.func28, Try.ntmps28
 go_wp2
 go_ret
 exact ⟨ret_int (by first | (simp [usesV]; done) | (rw [uses_zero HO.out])), rfl⟩
theorem ruses_9  (w : World)  : Calls Try.prog 28 #[.int .i64 9] w fun e w' => e = .returned (.int .i64 (usesV 9)) ∧ w' = w := by
 go_enter Try.func28, Try.ntmps28
 go_wp2
 go_ret
 exact ⟨ret_int (by first | (simp [usesV]; done) | (rw [uses_zero HO.out])), rfl⟩
theorem ruses_10  (w : World)  : Calls Try.prog 28 #[.int .i64 10] w fun e w' => e = .returned (.int .i64 (usesV 10)) ∧ w' = w := by
 go_enter Try.func28, Try.ntmps28
 go_wp2
 go_ret
 exact ⟨ret_int (by first | (simp [usesV]; done) | (rw [uses_zero HO.out])), rfl⟩
theorem ruses_11  (w : World)  : Calls Try.prog 28 #[.int .i64 11] w fun e w' => e = .returned (.int .i64 (usesV 11)) ∧ w' = w := by
 go_enter Try.func28, Try.ntmps28
 go_wp2
 go_ret
 exact ⟨ret_int (by first | (simp [usesV]; done) | (rw [uses_zero HO.out])), rfl⟩
theorem ruses_12  (w : World)  : Calls Try.prog 28 #[.int .i64 12] w fun e w' => e = .returned (.int .i64 (usesV 12)) ∧ w' = w := by
 go_enter Try.func28, Try.ntmps28
 go_wp2
 go_ret
 exact ⟨ret_int (by first | (simp [usesV]; done) | (rw [uses_zero HO.out])), rfl⟩
theorem ruses_13  (w : World)  : Calls Try.prog 28 #[.int .i64 13] w fun e w' => e = .returned (.int .i64 (usesV 13)) ∧ w' = w := by
 go_enter Try.func28, Try.ntmps28
 go_wp2
 go_ret
 exact ⟨ret_int (by first | (simp [usesV]; done) | (rw [uses_zero HO.out])), rfl⟩
theorem ruses_14  (w : World)  : Calls Try.prog 28 #[.int .i64 14] w fun e w' => e = .returned (.int .i64 (usesV 14)) ∧ w' = w := by
 go_enter Try.func28, Try.ntmps28
 go_wp2
 go_ret
 exact ⟨ret_int (by first | (simp [usesV]; done) | (rw [uses_zero HO.out])), rfl⟩
theorem ruses_15  (w : World)  : Calls Try.prog 28 #[.int .i64 15] w fun e w' => e = .returned (.int .i64 (usesV 15)) ∧ w' = w := by
 go_enter Try.func28, Try.ntmps28
 go_wp2
 go_ret
 exact ⟨ret_int (by first | (simp [usesV]; done) | (rw [uses_zero HO.out])), rfl⟩
theorem ruses_16  (w : World)  : Calls Try.prog 28 #[.int .i64 16] w fun e w' => e = .returned (.int .i64 (usesV 16)) ∧ w' = w := by
 go_enter Try.func28, Try.ntmps28
 go_wp2
 go_ret
 exact ⟨ret_int (by first | (simp [usesV]; done) | (rw [uses_zero HO.out])), rfl⟩
theorem ruses_17  (w : World)  : Calls Try.prog 28 #[.int .i64 17] w fun e w' => e = .returned (.int .i64 (usesV 17)) ∧ w' = w := by
 go_enter Try.func28, Try.ntmps28
 go_wp2
 go_ret
 exact ⟨ret_int (by first | (simp [usesV]; done) | (rw [uses_zero HO.out])), rfl⟩
theorem ruses_18  (w : World)  : Calls Try.prog 28 #[.int .i64 18] w fun e w' => e = .returned (.int .i64 (usesV 18)) ∧ w' = w := by
 go_enter Try.func28, Try.ntmps28
 go_wp2
 go_ret
 exact ⟨ret_int (by first | (simp [usesV]; done) | (rw [uses_zero HO.out])), rfl⟩
theorem ruses_19  (w : World)  : Calls Try.prog 28 #[.int .i64 19] w fun e w' => e = .returned (.int .i64 (usesV 19)) ∧ w' = w := by
 go_enter Try.func28, Try.ntmps28
 go_wp2
 go_ret
 exact ⟨ret_int (by first | (simp [usesV]; done) | (rw [uses_zero HO.out])), rfl⟩
theorem ruses_20  (w : World)  : Calls Try.prog 28 #[.int .i64 20] w fun e w' => e = .returned (.int .i64 (usesV 20)) ∧ w' = w := by
 go_enter Try.func28, Try.ntmps28
 go_wp2
 go_ret
 exact ⟨ret_int (by first | (simp [usesV]; done) | (rw [uses_zero HO.out])), rfl⟩
theorem ruses_odd (op : Int)  (w : World)  (ho : op < 1 ∨ 20 < op) : Calls Try.prog 28 #[.int .i64 op] w fun e w' => e = .returned (.int .i64 (usesV op)) ∧ w' = w := by
 have n1 : (op == 1) = false := by simp; omega
 have m1 : (op != 1) = true := by simp; omega
 have n2 : (op == 2) = false := by simp; omega
 have m2 : (op != 2) = true := by simp; omega
 have n3 : (op == 3) = false := by simp; omega
 have m3 : (op != 3) = true := by simp; omega
 have n4 : (op == 4) = false := by simp; omega
 have m4 : (op != 4) = true := by simp; omega
 have n5 : (op == 5) = false := by simp; omega
 have m5 : (op != 5) = true := by simp; omega
 have n6 : (op == 6) = false := by simp; omega
 have m6 : (op != 6) = true := by simp; omega
 have n7 : (op == 7) = false := by simp; omega
 have m7 : (op != 7) = true := by simp; omega
 have n8 : (op == 8) = false := by simp; omega
 have m8 : (op != 8) = true := by simp; omega
 have n9 : (op == 9) = false := by simp; omega
 have m9 : (op != 9) = true := by simp; omega
 have n10 : (op == 10) = false := by simp; omega
 have m10 : (op != 10) = true := by simp; omega
 have n11 : (op == 11) = false := by simp; omega
 have m11 : (op != 11) = true := by simp; omega
 have n12 : (op == 12) = false := by simp; omega
 have m12 : (op != 12) = true := by simp; omega
 have n13 : (op == 13) = false := by simp; omega
 have m13 : (op != 13) = true := by simp; omega
 have n14 : (op == 14) = false := by simp; omega
 have m14 : (op != 14) = true := by simp; omega
 have n15 : (op == 15) = false := by simp; omega
 have m15 : (op != 15) = true := by simp; omega
 have n16 : (op == 16) = false := by simp; omega
 have m16 : (op != 16) = true := by simp; omega
 have n17 : (op == 17) = false := by simp; omega
 have m17 : (op != 17) = true := by simp; omega
 have n18 : (op == 18) = false := by simp; omega
 have m18 : (op != 18) = true := by simp; omega
 have n19 : (op == 19) = false := by simp; omega
 have m19 : (op != 19) = true := by simp; omega
 have n20 : (op == 20) = false := by simp; omega
 have m20 : (op != 20) = true := by simp; omega
 have HO := Lib.hid ho
 clear ho
 go_enter Try.func28, Try.ntmps28
 rcases HO.out with ho | ho
 ·have d1 : ¬ 1 ≤ op := by omega
  have d6 : ¬ 6 ≤ op := by omega
  have d14 : ¬ 14 ≤ op := by omega
  go_wp2
  go_ret
  exact ⟨ret_int (by first | (simp [usesV]; done) | (rw [uses_zero HO.out])), rfl⟩
 ·have d9 : ¬ op ≤ 9 := by omega
  have d11 : ¬ op ≤ 11 := by omega
  have d18 : ¬ op ≤ 18 := by omega
  go_wp2
  go_ret
  exact ⟨ret_int (by first | (simp [usesV]; done) | (rw [uses_zero HO.out])), rfl⟩
theorem ruses_any (op : Int)  (w : World)  : Calls Try.prog 28 #[.int .i64 op] w fun e w' => e = .returned (.int .i64 (usesV op)) ∧ w' = w := by
 rcases op_cases op with rfl | rfl | rfl | rfl | rfl | rfl | rfl | rfl | rfl | rfl | rfl | rfl | rfl | rfl | rfl | rfl | rfl | rfl | rfl | rfl | h

 ·exact ruses_1  w 
 ·exact ruses_2  w 
 ·exact ruses_3  w 
 ·exact ruses_4  w 
 ·exact ruses_5  w 
 ·exact ruses_6  w 
 ·exact ruses_7  w 
 ·exact ruses_8  w 
 ·exact ruses_9  w 
 ·exact ruses_10  w 
 ·exact ruses_11  w 
 ·exact ruses_12  w 
 ·exact ruses_13  w 
 ·exact ruses_14  w 
 ·exact ruses_15  w 
 ·exact ruses_16  w 
 ·exact ruses_17  w 
 ·exact ruses_18  w 
 ·exact ruses_19  w 
 ·exact ruses_20  w 
 ·exact ruses_odd op  w  h
end Go.Proofs.Ytnojndgmgkgnpaa.Lv
/- Contracts: whether an instruction may be, where it leads. -/
namespace Go.Proofs.Ytnojndgmgkgnpaa.Lv
open Go.ChangeShapes Go.WideShapes Go.ChangeAt Go.RowKit
set_option linter.unusedVariables false
set_option linter.unusedSimpArgs false

theorem operand_any (n : Int) (u : Bool) (w : World) : Calls Try.prog 47 #[.int .i64 n, .bool u] w fun e w' => e = .returned (.bool (operB n u)) ∧ w' = w := by
 by_cases h0 : n = 0
 ·subst h0
  have F : Hid (operB 0 u = true) := rfl
  cases u
  all_goals
   go_enter Try.func47, Try.ntmps47
   go_wp2
   go_ret
   exact ⟨ret_bool F.out.symm, rfl⟩
 ·have e0 : (n == 0) = false := by simpa using h0
  cases u
  ·have F : Hid (operB n false = false) := by show _ = _; unfold operB; rw [e0]; rfl
   clear h0
   go_enter Try.func47, Try.ntmps47
   go_wp2
   go_ret
   exact ⟨ret_bool F.out.symm, rfl⟩
  ·by_cases h1 : 0 < n
   ·have d1 : decide (0 < n) = true := decide_eq_true h1
    by_cases h2 : n ≤ 255
    ·have d2 : decide (n ≤ 255) = true := decide_eq_true h2
     have F : Hid (operB n true = true) := by show _ = _; unfold operB; rw [e0, d1, d2]; rfl
     clear h0
     go_enter Try.func47, Try.ntmps47
     go_wp2
     go_ret
     exact ⟨ret_bool F.out.symm, rfl⟩
    ·have d2 : decide (n ≤ 255) = false := decide_eq_false h2
     have F : Hid (operB n true = false) := by show _ = _; unfold operB; rw [e0, d1, d2]; rfl
     clear h0
     go_enter Try.func47, Try.ntmps47
     go_wp2
     go_ret
     exact ⟨ret_bool F.out.symm, rfl⟩
   ·have d1 : decide (0 < n) = false := decide_eq_false h1
    have F : Hid (operB n true = false) := by show _ = _; unfold operB; rw [e0, d1]; rfl
    clear h0
    go_enter Try.func47, Try.ntmps47
    go_wp2
    go_ret
    exact ⟨ret_bool F.out.symm, rfl⟩

set_option maxHeartbeats 4000000 in
theorem may_any (op : Int) (a : Int) (b : Int) (w : World) : Calls Try.prog 31 #[.agg #[.int .i64 op, .int .i64 a, .int .i64 b]] w fun e w' => e = .returned (.bool (mayB ⟨op, a, b⟩)) ∧ Below w.heap.size w w' := by
 obtain ⟨u1, h1⟩ : ∃ u, decide (0 < usesV op) = u := ⟨_, rfl⟩
 obtain ⟨u2, h2⟩ : ∃ u, decide (1 < usesV op) = u := ⟨_, rfl⟩
 obtain ⟨x, hx⟩ : ∃ x, operB a u1 = x := ⟨_, rfl⟩
 obtain ⟨y, hy⟩ : ∃ y, operB b u2 = y := ⟨_, rfl⟩
 have HU := Lib.hid h1
 have HV := Lib.hid h2
 have HA := Lib.hid hx
 have HB := Lib.hid hy
 have M : Hid (mayB ⟨op, a, b⟩ = (decide (1 ≤ op) && decide (op ≤ 20) && x && y)) := by show _ = _; unfold mayB; rw [h1, h2, hx, hy]
 clear h1 h2 hx hy
 by_cases p1 : 1 ≤ op
 ·have d1 : decide (1 ≤ op) = true := decide_eq_true p1
  by_cases p2 : op ≤ 20
  ·have d2 : decide (op ≤ 20) = true := decide_eq_true p2
   have F : Hid (mayB ⟨op, a, b⟩ = (x && y)) := by show _ = _; rw [M.out, d1, d2]; rfl
   cases x
   ·go_enter Try.func31, Try.ntmps31
    go_wp2_with (first | (go_at_call 46; (with_reducible refine (uses_any _ _).mono ?_); rw [HU.out, HV.out]; rintro e w' ⟨rfl, rfl⟩) | (go_at_call 47; (with_reducible refine (operand_any a u1 _).mono ?_); rw [HA.out]; rintro e w' ⟨rfl, rfl⟩) | (go_at_call 47; (with_reducible refine (operand_any b u2 _).mono ?_); rw [HB.out]; rintro e w' ⟨rfl, rfl⟩))
    go_ret
    exact ⟨ret_bool F.out.symm, by (repeat' (first | (with_reducible exact Below.refl _ _) | (with_reducible assumption) | (with_reducible refine below_drewN ?_ _) | (with_reducible refine Below.alloc ?_ ?_ _) | (with_reducible refine Below.drew ?_) | (with_reducible refine Below.setCell ?_ ?_ _) | go_size))⟩
   ·go_enter Try.func31, Try.ntmps31
    go_wp2_with (first | (go_at_call 46; (with_reducible refine (uses_any _ _).mono ?_); rw [HU.out, HV.out]; rintro e w' ⟨rfl, rfl⟩) | (go_at_call 47; (with_reducible refine (operand_any a u1 _).mono ?_); rw [HA.out]; rintro e w' ⟨rfl, rfl⟩) | (go_at_call 47; (with_reducible refine (operand_any b u2 _).mono ?_); rw [HB.out]; rintro e w' ⟨rfl, rfl⟩))
    go_ret
    exact ⟨ret_bool F.out.symm, by (repeat' (first | (with_reducible exact Below.refl _ _) | (with_reducible assumption) | (with_reducible refine below_drewN ?_ _) | (with_reducible refine Below.alloc ?_ ?_ _) | (with_reducible refine Below.drew ?_) | (with_reducible refine Below.setCell ?_ ?_ _) | go_size))⟩
  ·have d2 : decide (op ≤ 20) = false := decide_eq_false p2
   have F : Hid (mayB ⟨op, a, b⟩ = false) := by show _ = _; rw [M.out, d1, d2]; rfl
   go_enter Try.func31, Try.ntmps31
   go_wp2_with (first | (go_at_call 46; (with_reducible refine (uses_any _ _).mono ?_); rw [HU.out, HV.out]; rintro e w' ⟨rfl, rfl⟩) | (go_at_call 47; (with_reducible refine (operand_any a u1 _).mono ?_); rw [HA.out]; rintro e w' ⟨rfl, rfl⟩) | (go_at_call 47; (with_reducible refine (operand_any b u2 _).mono ?_); rw [HB.out]; rintro e w' ⟨rfl, rfl⟩))
   go_ret
   exact ⟨ret_bool F.out.symm, by (repeat' (first | (with_reducible exact Below.refl _ _) | (with_reducible assumption) | (with_reducible refine below_drewN ?_ _) | (with_reducible refine Below.alloc ?_ ?_ _) | (with_reducible refine Below.drew ?_) | (with_reducible refine Below.setCell ?_ ?_ _) | go_size))⟩
 ·have d1 : decide (1 ≤ op) = false := decide_eq_false p1
  have F : Hid (mayB ⟨op, a, b⟩ = false) := by show _ = _; rw [M.out, d1]; rfl
  go_enter Try.func31, Try.ntmps31
  go_wp2_with (first | (go_at_call 46; (with_reducible refine (uses_any _ _).mono ?_); rw [HU.out, HV.out]; rintro e w' ⟨rfl, rfl⟩) | (go_at_call 47; (with_reducible refine (operand_any a u1 _).mono ?_); rw [HA.out]; rintro e w' ⟨rfl, rfl⟩) | (go_at_call 47; (with_reducible refine (operand_any b u2 _).mono ?_); rw [HB.out]; rintro e w' ⟨rfl, rfl⟩))
  go_ret
  exact ⟨ret_bool F.out.symm, by (repeat' (first | (with_reducible exact Below.refl _ _) | (with_reducible assumption) | (with_reducible refine below_drewN ?_ _) | (with_reducible refine Below.alloc ?_ ?_ _) | (with_reducible refine Below.drew ?_) | (with_reducible refine Below.setCell ?_ ?_ _) | go_size))⟩

set_option maxHeartbeats 4000000 in
theorem rtarget_any (op : Int) (a : Int) (b : Int) (w : World) (ha1 : -1000000 ≤ a) (ha2 : a ≤ 1000000) (hb1 : -1000000 ≤ b) (hb2 : b ≤ 1000000) : Calls Try.prog 10 #[.agg #[.int .i64 op, .int .i64 a, .int .i64 b]] w fun e w' => e = .returned (.int .i64 (targetV ⟨op, a, b⟩)) ∧ Below w.heap.size w w' := by
 cases h : op == 16
 ·have n1 : (op != 16) = true := by unfold bne; rw [h]; rfl
  cases h2 : op == 17
  ·have n2 : (op != 17) = true := by unfold bne; rw [h2]; rfl
   have F : Hid (targetV ⟨op, a, b⟩ = -1) := by show _ = _; unfold targetV leadsB; rw [h, h2]; rfl
   go_enter Try.func10, Try.ntmps10
   go_wp2
   go_ret
   exact ⟨ret_int F.out.symm, by (repeat' (first | (with_reducible exact Below.refl _ _) | (with_reducible assumption) | (with_reducible refine below_drewN ?_ _) | (with_reducible refine Below.alloc ?_ ?_ _) | (with_reducible refine Below.drew ?_) | (with_reducible refine Below.setCell ?_ ?_ _) | go_size))⟩
  ·have n2 : (op != 17) = false := by unfold bne; rw [h2]; rfl
   have F : Hid (targetV ⟨op, a, b⟩ = a + 256 * b) := by show _ = _; unfold targetV leadsB; rw [h, h2]; show a + b * 256 = _; omega
   go_enter Try.func10, Try.ntmps10
   go_wp2
   go_ret
   exact ⟨ret_int F.out.symm, by (repeat' (first | (with_reducible exact Below.refl _ _) | (with_reducible assumption) | (with_reducible refine below_drewN ?_ _) | (with_reducible refine Below.alloc ?_ ?_ _) | (with_reducible refine Below.drew ?_) | (with_reducible refine Below.setCell ?_ ?_ _) | go_size))⟩
 ·have n1 : (op != 16) = false := by unfold bne; rw [h]; rfl
  have F : Hid (targetV ⟨op, a, b⟩ = a + 256 * b) := by show _ = _; unfold targetV leadsB; rw [h]; show a + b * 256 = _; omega
  go_enter Try.func10, Try.ntmps10
  go_wp2
  go_ret
  exact ⟨ret_int F.out.symm, by (repeat' (first | (with_reducible exact Below.refl _ _) | (with_reducible assumption) | (with_reducible refine below_drewN ?_ _) | (with_reducible refine Below.alloc ?_ ?_ _) | (with_reducible refine Below.drew ?_) | (with_reducible refine Below.setCell ?_ ?_ _) | go_size))⟩

theorem may_in {op a b : Int} (h1 : 1 ≤ op) (h2 : op ≤ 20) (h3 : 0 ≤ a) (h4 : a ≤ 255) (h5 : 0 ≤ b) (h6 : b ≤ 255) : mayB ⟨op, a, b⟩ = ((decide (0 < usesV op) || a == 0) && (decide (1 < usesV op) || b == 0)) := by
 unfold mayB operB
 have e1 : decide (1 ≤ op) = true := decide_eq_true h1
 have e2 : decide (op ≤ 20) = true := decide_eq_true h2
 have e4 : decide (a ≤ 255) = true := decide_eq_true h4
 have e6 : decide (b ≤ 255) = true := decide_eq_true h6
 simp only [e1, e2, e4, e6, Bool.and_true, Bool.true_and]
 congr 1
 ·by_cases ha : a = 0
  ·subst ha; simp
  ·have : decide (0 < a) = true := decide_eq_true (by omega)
   simp [this, ha, Bool.or_comm]
 ·by_cases hb : b = 0
  ·subst hb; simp
  ·have : decide (0 < b) = true := decide_eq_true (by omega)
   simp [this, hb, Bool.or_comm]

end Go.Proofs.Ytnojndgmgkgnpaa.Lv

/- Contracts of the leaves: what an instruction uses, where it leads, by how much the stack grows. -/
import Derived.Test.YtclndbiljhbbkaaDoorBase
namespace Go.Proofs.YtclndbiljhbbkaaDoor
open Go.ChangeShapes Go.WideShapes Go.ChangeAt Go.RowKit
set_option linter.unusedVariables false
set_option linter.unusedSimpArgs false

theorem ret_int {k : IntKind} {a b : Int} (h : a = b) : Ending.returned (.int k a) = .returned (.int k b) := by rw [h]
theorem ret_bool {a b : Bool} (h : a = b) : Ending.returned (.bool a) = .returned (.bool b) := by rw [h]
theorem ret_bb {a b c d : Bool} (h : a = b) (h' : c = d) : Ending.returned (.tuple #[.bool a, .bool c]) = .returned (.tuple #[.bool b, .bool d]) := by rw [h, h']
theorem uses_zero {op : Int} (h : op < 1 ∨ 20 < op) : usesV op = 0 := by unfold usesV; rw [if_neg (by omega), if_neg (by omega)]
theorem op_cases (op : Int) : op = 1 ∨ op = 2 ∨ op = 3 ∨ op = 4 ∨ op = 5 ∨ op = 6 ∨ op = 7 ∨ op = 8 ∨ op = 9 ∨ op = 10 ∨ op = 11 ∨ op = 12 ∨ op = 13 ∨ op = 14 ∨ op = 15 ∨ op = 16 ∨ op = 17 ∨ op = 18 ∨ op = 19 ∨ op = 20 ∨ (op < 1 ∨ 20 < op) := by omega

theorem grows_1 (a : Int) (b : Int) (w : World) (hb1 : -1000000 ≤ b) (hb2 : b ≤ 1000000) : Calls Tryd.prog 20 #[.agg #[.int .i64 1, .int .i64 a, .int .i64 b]] w fun e w' => e = .returned (.int .i64 (growsV ⟨1, a, b⟩)) ∧ Below w.heap.size w w' := by
  go_enter Tryd.func20, Tryd.ntmps20
  go_wp2
  go_ret
  exact ⟨ret_int (by simp [growsV]; try omega), by (repeat' (first | (with_reducible exact Below.refl _ _) | (with_reducible assumption) | (with_reducible refine below_drewN ?_ _) | (with_reducible refine Below.alloc ?_ ?_ _) | (with_reducible refine Below.drew ?_) | (with_reducible refine Below.setCell ?_ ?_ _) | go_size))⟩
theorem grows_2 (a : Int) (b : Int) (w : World) (hb1 : -1000000 ≤ b) (hb2 : b ≤ 1000000) : Calls Tryd.prog 20 #[.agg #[.int .i64 2, .int .i64 a, .int .i64 b]] w fun e w' => e = .returned (.int .i64 (growsV ⟨2, a, b⟩)) ∧ Below w.heap.size w w' := by
  go_enter Tryd.func20, Tryd.ntmps20
  go_wp2
  go_ret
  exact ⟨ret_int (by simp [growsV]; try omega), by (repeat' (first | (with_reducible exact Below.refl _ _) | (with_reducible assumption) | (with_reducible refine below_drewN ?_ _) | (with_reducible refine Below.alloc ?_ ?_ _) | (with_reducible refine Below.drew ?_) | (with_reducible refine Below.setCell ?_ ?_ _) | go_size))⟩
theorem grows_3 (a : Int) (b : Int) (w : World) (hb1 : -1000000 ≤ b) (hb2 : b ≤ 1000000) : Calls Tryd.prog 20 #[.agg #[.int .i64 3, .int .i64 a, .int .i64 b]] w fun e w' => e = .returned (.int .i64 (growsV ⟨3, a, b⟩)) ∧ Below w.heap.size w w' := by
  go_enter Tryd.func20, Tryd.ntmps20
  go_wp2
  go_ret
  exact ⟨ret_int (by simp [growsV]; try omega), by (repeat' (first | (with_reducible exact Below.refl _ _) | (with_reducible assumption) | (with_reducible refine below_drewN ?_ _) | (with_reducible refine Below.alloc ?_ ?_ _) | (with_reducible refine Below.drew ?_) | (with_reducible refine Below.setCell ?_ ?_ _) | go_size))⟩
theorem grows_4 (a : Int) (b : Int) (w : World) (hb1 : -1000000 ≤ b) (hb2 : b ≤ 1000000) : Calls Tryd.prog 20 #[.agg #[.int .i64 4, .int .i64 a, .int .i64 b]] w fun e w' => e = .returned (.int .i64 (growsV ⟨4, a, b⟩)) ∧ Below w.heap.size w w' := by
  go_enter Tryd.func20, Tryd.ntmps20
  go_wp2
  go_ret
  exact ⟨ret_int (by simp [growsV]; try omega), by (repeat' (first | (with_reducible exact Below.refl _ _) | (with_reducible assumption) | (with_reducible refine below_drewN ?_ _) | (with_reducible refine Below.alloc ?_ ?_ _) | (with_reducible refine Below.drew ?_) | (with_reducible refine Below.setCell ?_ ?_ _) | go_size))⟩
theorem grows_5 (a : Int) (b : Int) (w : World) (hb1 : -1000000 ≤ b) (hb2 : b ≤ 1000000) : Calls Tryd.prog 20 #[.agg #[.int .i64 5, .int .i64 a, .int .i64 b]] w fun e w' => e = .returned (.int .i64 (growsV ⟨5, a, b⟩)) ∧ Below w.heap.size w w' := by
  go_enter Tryd.func20, Tryd.ntmps20
  go_wp2
  go_ret
  exact ⟨ret_int (by simp [growsV]; try omega), by (repeat' (first | (with_reducible exact Below.refl _ _) | (with_reducible assumption) | (with_reducible refine below_drewN ?_ _) | (with_reducible refine Below.alloc ?_ ?_ _) | (with_reducible refine Below.drew ?_) | (with_reducible refine Below.setCell ?_ ?_ _) | go_size))⟩
theorem grows_6 (a : Int) (b : Int) (w : World) (hb1 : -1000000 ≤ b) (hb2 : b ≤ 1000000) : Calls Tryd.prog 20 #[.agg #[.int .i64 6, .int .i64 a, .int .i64 b]] w fun e w' => e = .returned (.int .i64 (growsV ⟨6, a, b⟩)) ∧ Below w.heap.size w w' := by
  go_enter Tryd.func20, Tryd.ntmps20
  go_wp2
  go_ret
  exact ⟨ret_int (by simp [growsV]; try omega), by (repeat' (first | (with_reducible exact Below.refl _ _) | (with_reducible assumption) | (with_reducible refine below_drewN ?_ _) | (with_reducible refine Below.alloc ?_ ?_ _) | (with_reducible refine Below.drew ?_) | (with_reducible refine Below.setCell ?_ ?_ _) | go_size))⟩
theorem grows_7 (a : Int) (b : Int) (w : World) (hb1 : -1000000 ≤ b) (hb2 : b ≤ 1000000) : Calls Tryd.prog 20 #[.agg #[.int .i64 7, .int .i64 a, .int .i64 b]] w fun e w' => e = .returned (.int .i64 (growsV ⟨7, a, b⟩)) ∧ Below w.heap.size w w' := by
  go_enter Tryd.func20, Tryd.ntmps20
  go_wp2
  go_ret
  exact ⟨ret_int (by simp [growsV]; try omega), by (repeat' (first | (with_reducible exact Below.refl _ _) | (with_reducible assumption) | (with_reducible refine below_drewN ?_ _) | (with_reducible refine Below.alloc ?_ ?_ _) | (with_reducible refine Below.drew ?_) | (with_reducible refine Below.setCell ?_ ?_ _) | go_size))⟩
theorem grows_8 (a : Int) (b : Int) (w : World) (hb1 : -1000000 ≤ b) (hb2 : b ≤ 1000000) : Calls Tryd.prog 20 #[.agg #[.int .i64 8, .int .i64 a, .int .i64 b]] w fun e w' => e = .returned (.int .i64 (growsV ⟨8, a, b⟩)) ∧ Below w.heap.size w w' := by
  go_enter Tryd.func20, Tryd.ntmps20
  go_wp2
  go_ret
  exact ⟨ret_int (by simp [growsV]; try omega), by (repeat' (first | (with_reducible exact Below.refl _ _) | (with_reducible assumption) | (with_reducible refine below_drewN ?_ _) | (with_reducible refine Below.alloc ?_ ?_ _) | (with_reducible refine Below.drew ?_) | (with_reducible refine Below.setCell ?_ ?_ _) | go_size))⟩
theorem grows_9 (a : Int) (b : Int) (w : World) (hb1 : -1000000 ≤ b) (hb2 : b ≤ 1000000) : Calls Tryd.prog 20 #[.agg #[.int .i64 9, .int .i64 a, .int .i64 b]] w fun e w' => e = .returned (.int .i64 (growsV ⟨9, a, b⟩)) ∧ Below w.heap.size w w' := by
  go_enter Tryd.func20, Tryd.ntmps20
  go_wp2
  go_ret
  exact ⟨ret_int (by simp [growsV]; try omega), by (repeat' (first | (with_reducible exact Below.refl _ _) | (with_reducible assumption) | (with_reducible refine below_drewN ?_ _) | (with_reducible refine Below.alloc ?_ ?_ _) | (with_reducible refine Below.drew ?_) | (with_reducible refine Below.setCell ?_ ?_ _) | go_size))⟩
theorem grows_10 (a : Int) (b : Int) (w : World) (hb1 : -1000000 ≤ b) (hb2 : b ≤ 1000000) : Calls Tryd.prog 20 #[.agg #[.int .i64 10, .int .i64 a, .int .i64 b]] w fun e w' => e = .returned (.int .i64 (growsV ⟨10, a, b⟩)) ∧ Below w.heap.size w w' := by
  go_enter Tryd.func20, Tryd.ntmps20
  go_wp2
  go_ret
  exact ⟨ret_int (by simp [growsV]; try omega), by (repeat' (first | (with_reducible exact Below.refl _ _) | (with_reducible assumption) | (with_reducible refine below_drewN ?_ _) | (with_reducible refine Below.alloc ?_ ?_ _) | (with_reducible refine Below.drew ?_) | (with_reducible refine Below.setCell ?_ ?_ _) | go_size))⟩
theorem grows_11 (a : Int) (b : Int) (w : World) (hb1 : -1000000 ≤ b) (hb2 : b ≤ 1000000) : Calls Tryd.prog 20 #[.agg #[.int .i64 11, .int .i64 a, .int .i64 b]] w fun e w' => e = .returned (.int .i64 (growsV ⟨11, a, b⟩)) ∧ Below w.heap.size w w' := by
  go_enter Tryd.func20, Tryd.ntmps20
  go_wp2
  go_ret
  exact ⟨ret_int (by simp [growsV]; try omega), by (repeat' (first | (with_reducible exact Below.refl _ _) | (with_reducible assumption) | (with_reducible refine below_drewN ?_ _) | (with_reducible refine Below.alloc ?_ ?_ _) | (with_reducible refine Below.drew ?_) | (with_reducible refine Below.setCell ?_ ?_ _) | go_size))⟩
theorem grows_12 (a : Int) (b : Int) (w : World) (hb1 : -1000000 ≤ b) (hb2 : b ≤ 1000000) : Calls Tryd.prog 20 #[.agg #[.int .i64 12, .int .i64 a, .int .i64 b]] w fun e w' => e = .returned (.int .i64 (growsV ⟨12, a, b⟩)) ∧ Below w.heap.size w w' := by
  go_enter Tryd.func20, Tryd.ntmps20
  go_wp2
  go_ret
  exact ⟨ret_int (by simp [growsV]; try omega), by (repeat' (first | (with_reducible exact Below.refl _ _) | (with_reducible assumption) | (with_reducible refine below_drewN ?_ _) | (with_reducible refine Below.alloc ?_ ?_ _) | (with_reducible refine Below.drew ?_) | (with_reducible refine Below.setCell ?_ ?_ _) | go_size))⟩
theorem grows_13 (a : Int) (b : Int) (w : World) (hb1 : -1000000 ≤ b) (hb2 : b ≤ 1000000) : Calls Tryd.prog 20 #[.agg #[.int .i64 13, .int .i64 a, .int .i64 b]] w fun e w' => e = .returned (.int .i64 (growsV ⟨13, a, b⟩)) ∧ Below w.heap.size w w' := by
  go_enter Tryd.func20, Tryd.ntmps20
  go_wp2
  go_ret
  exact ⟨ret_int (by simp [growsV]; try omega), by (repeat' (first | (with_reducible exact Below.refl _ _) | (with_reducible assumption) | (with_reducible refine below_drewN ?_ _) | (with_reducible refine Below.alloc ?_ ?_ _) | (with_reducible refine Below.drew ?_) | (with_reducible refine Below.setCell ?_ ?_ _) | go_size))⟩
theorem grows_14 (a : Int) (b : Int) (w : World) (hb1 : -1000000 ≤ b) (hb2 : b ≤ 1000000) : Calls Tryd.prog 20 #[.agg #[.int .i64 14, .int .i64 a, .int .i64 b]] w fun e w' => e = .returned (.int .i64 (growsV ⟨14, a, b⟩)) ∧ Below w.heap.size w w' := by
  go_enter Tryd.func20, Tryd.ntmps20
  go_wp2
  go_ret
  exact ⟨ret_int (by simp [growsV]; try omega), by (repeat' (first | (with_reducible exact Below.refl _ _) | (with_reducible assumption) | (with_reducible refine below_drewN ?_ _) | (with_reducible refine Below.alloc ?_ ?_ _) | (with_reducible refine Below.drew ?_) | (with_reducible refine Below.setCell ?_ ?_ _) | go_size))⟩
theorem grows_15 (a : Int) (b : Int) (w : World) (hb1 : -1000000 ≤ b) (hb2 : b ≤ 1000000) : Calls Tryd.prog 20 #[.agg #[.int .i64 15, .int .i64 a, .int .i64 b]] w fun e w' => e = .returned (.int .i64 (growsV ⟨15, a, b⟩)) ∧ Below w.heap.size w w' := by
  go_enter Tryd.func20, Tryd.ntmps20
  go_wp2
  go_ret
  exact ⟨ret_int (by simp [growsV]; try omega), by (repeat' (first | (with_reducible exact Below.refl _ _) | (with_reducible assumption) | (with_reducible refine below_drewN ?_ _) | (with_reducible refine Below.alloc ?_ ?_ _) | (with_reducible refine Below.drew ?_) | (with_reducible refine Below.setCell ?_ ?_ _) | go_size))⟩
theorem grows_16 (a : Int) (b : Int) (w : World) (hb1 : -1000000 ≤ b) (hb2 : b ≤ 1000000) : Calls Tryd.prog 20 #[.agg #[.int .i64 16, .int .i64 a, .int .i64 b]] w fun e w' => e = .returned (.int .i64 (growsV ⟨16, a, b⟩)) ∧ Below w.heap.size w w' := by
  go_enter Tryd.func20, Tryd.ntmps20
  go_wp2
  go_ret
  exact ⟨ret_int (by simp [growsV]; try omega), by (repeat' (first | (with_reducible exact Below.refl _ _) | (with_reducible assumption) | (with_reducible refine below_drewN ?_ _) | (with_reducible refine Below.alloc ?_ ?_ _) | (with_reducible refine Below.drew ?_) | (with_reducible refine Below.setCell ?_ ?_ _) | go_size))⟩
theorem grows_17 (a : Int) (b : Int) (w : World) (hb1 : -1000000 ≤ b) (hb2 : b ≤ 1000000) : Calls Tryd.prog 20 #[.agg #[.int .i64 17, .int .i64 a, .int .i64 b]] w fun e w' => e = .returned (.int .i64 (growsV ⟨17, a, b⟩)) ∧ Below w.heap.size w w' := by
  go_enter Tryd.func20, Tryd.ntmps20
  go_wp2
  go_ret
  exact ⟨ret_int (by simp [growsV]; try omega), by (repeat' (first | (with_reducible exact Below.refl _ _) | (with_reducible assumption) | (with_reducible refine below_drewN ?_ _) | (with_reducible refine Below.alloc ?_ ?_ _) | (with_reducible refine Below.drew ?_) | (with_reducible refine Below.setCell ?_ ?_ _) | go_size))⟩
theorem grows_18 (a : Int) (b : Int) (w : World) (hb1 : -1000000 ≤ b) (hb2 : b ≤ 1000000) : Calls Tryd.prog 20 #[.agg #[.int .i64 18, .int .i64 a, .int .i64 b]] w fun e w' => e = .returned (.int .i64 (growsV ⟨18, a, b⟩)) ∧ Below w.heap.size w w' := by
  go_enter Tryd.func20, Tryd.ntmps20
  go_wp2
  go_ret
  exact ⟨ret_int (by simp [growsV]; try omega), by (repeat' (first | (with_reducible exact Below.refl _ _) | (with_reducible assumption) | (with_reducible refine below_drewN ?_ _) | (with_reducible refine Below.alloc ?_ ?_ _) | (with_reducible refine Below.drew ?_) | (with_reducible refine Below.setCell ?_ ?_ _) | go_size))⟩
theorem grows_19 (a : Int) (b : Int) (w : World) (hb1 : -1000000 ≤ b) (hb2 : b ≤ 1000000) : Calls Tryd.prog 20 #[.agg #[.int .i64 19, .int .i64 a, .int .i64 b]] w fun e w' => e = .returned (.int .i64 (growsV ⟨19, a, b⟩)) ∧ Below w.heap.size w w' := by
  go_enter Tryd.func20, Tryd.ntmps20
  go_wp2
  go_ret
  exact ⟨ret_int (by simp [growsV]; try omega), by (repeat' (first | (with_reducible exact Below.refl _ _) | (with_reducible assumption) | (with_reducible refine below_drewN ?_ _) | (with_reducible refine Below.alloc ?_ ?_ _) | (with_reducible refine Below.drew ?_) | (with_reducible refine Below.setCell ?_ ?_ _) | go_size))⟩
theorem grows_20 (a : Int) (b : Int) (w : World) (hb1 : -1000000 ≤ b) (hb2 : b ≤ 1000000) : Calls Tryd.prog 20 #[.agg #[.int .i64 20, .int .i64 a, .int .i64 b]] w fun e w' => e = .returned (.int .i64 (growsV ⟨20, a, b⟩)) ∧ Below w.heap.size w w' := by
  go_enter Tryd.func20, Tryd.ntmps20
  go_wp2
  go_ret
  exact ⟨ret_int (by simp [growsV]; try omega), by (repeat' (first | (with_reducible exact Below.refl _ _) | (with_reducible assumption) | (with_reducible refine below_drewN ?_ _) | (with_reducible refine Below.alloc ?_ ?_ _) | (with_reducible refine Below.drew ?_) | (with_reducible refine Below.setCell ?_ ?_ _) | go_size))⟩
theorem grows_odd (op : Int) (a : Int) (b : Int) (w : World) (hb1 : -1000000 ≤ b) (hb2 : b ≤ 1000000) (ho : op < 1 ∨ 20 < op) : Calls Tryd.prog 20 #[.agg #[.int .i64 op, .int .i64 a, .int .i64 b]] w fun e w' => e = .returned (.int .i64 (growsV ⟨op, a, b⟩)) ∧ Below w.heap.size w w' := by
  have n1 : (op == 1) = false := by simp; omega
  have m1 : (op != 1) = true := by simp; omega
  have n2 : (op == 2) = false := by simp; omega
  have m2 : (op != 2) = true := by simp; omega
  have n3 : (op == 3) = false := by simp; omega
  have m3 : (op != 3) = true := by simp; omega
  have n4 : (op == 4) = false := by simp; omega
  have m4 : (op != 4) = true := by simp; omega
  have n5 : (op == 5) = false := by simp; omega
  have m5 : (op != 5) = true := by simp; omega
  have n6 : (op == 6) = false := by simp; omega
  have m6 : (op != 6) = true := by simp; omega
  have n7 : (op == 7) = false := by simp; omega
  have m7 : (op != 7) = true := by simp; omega
  have n8 : (op == 8) = false := by simp; omega
  have m8 : (op != 8) = true := by simp; omega
  have n9 : (op == 9) = false := by simp; omega
  have m9 : (op != 9) = true := by simp; omega
  have n10 : (op == 10) = false := by simp; omega
  have m10 : (op != 10) = true := by simp; omega
  have n11 : (op == 11) = false := by simp; omega
  have m11 : (op != 11) = true := by simp; omega
  have n12 : (op == 12) = false := by simp; omega
  have m12 : (op != 12) = true := by simp; omega
  have n13 : (op == 13) = false := by simp; omega
  have m13 : (op != 13) = true := by simp; omega
  have n14 : (op == 14) = false := by simp; omega
  have m14 : (op != 14) = true := by simp; omega
  have n15 : (op == 15) = false := by simp; omega
  have m15 : (op != 15) = true := by simp; omega
  have n16 : (op == 16) = false := by simp; omega
  have m16 : (op != 16) = true := by simp; omega
  have n17 : (op == 17) = false := by simp; omega
  have m17 : (op != 17) = true := by simp; omega
  have n18 : (op == 18) = false := by simp; omega
  have m18 : (op != 18) = true := by simp; omega
  have n19 : (op == 19) = false := by simp; omega
  have m19 : (op != 19) = true := by simp; omega
  have n20 : (op == 20) = false := by simp; omega
  have m20 : (op != 20) = true := by simp; omega
  have HO := Lib.hid ho
  clear ho
  go_enter Tryd.func20, Tryd.ntmps20
  rcases HO.out with ho | ho
  · have d1 : ¬ 1 ≤ op := by omega
    have d6 : ¬ 6 ≤ op := by omega
    have d14 : ¬ 14 ≤ op := by omega
    go_wp2
    go_ret
    exact ⟨ret_int (by simp [growsV]; try omega), by (repeat' (first | (with_reducible exact Below.refl _ _) | (with_reducible assumption) | (with_reducible refine below_drewN ?_ _) | (with_reducible refine Below.alloc ?_ ?_ _) | (with_reducible refine Below.drew ?_) | (with_reducible refine Below.setCell ?_ ?_ _) | go_size))⟩
  · have d9 : ¬ op ≤ 9 := by omega
    have d11 : ¬ op ≤ 11 := by omega
    have d18 : ¬ op ≤ 18 := by omega
    go_wp2
    go_ret
    exact ⟨ret_int (by simp [growsV]; try omega), by (repeat' (first | (with_reducible exact Below.refl _ _) | (with_reducible assumption) | (with_reducible refine below_drewN ?_ _) | (with_reducible refine Below.alloc ?_ ?_ _) | (with_reducible refine Below.drew ?_) | (with_reducible refine Below.setCell ?_ ?_ _) | go_size))⟩
theorem grows_any (op : Int) (a : Int) (b : Int) (w : World) (hb1 : -1000000 ≤ b) (hb2 : b ≤ 1000000) : Calls Tryd.prog 20 #[.agg #[.int .i64 op, .int .i64 a, .int .i64 b]] w fun e w' => e = .returned (.int .i64 (growsV ⟨op, a, b⟩)) ∧ Below w.heap.size w w' := by
  rcases op_cases op with rfl | rfl | rfl | rfl | rfl | rfl | rfl | rfl | rfl | rfl | rfl | rfl | rfl | rfl | rfl | rfl | rfl | rfl | rfl | rfl | h

  · exact grows_1 a b w hb1 hb2
  · exact grows_2 a b w hb1 hb2
  · exact grows_3 a b w hb1 hb2
  · exact grows_4 a b w hb1 hb2
  · exact grows_5 a b w hb1 hb2
  · exact grows_6 a b w hb1 hb2
  · exact grows_7 a b w hb1 hb2
  · exact grows_8 a b w hb1 hb2
  · exact grows_9 a b w hb1 hb2
  · exact grows_10 a b w hb1 hb2
  · exact grows_11 a b w hb1 hb2
  · exact grows_12 a b w hb1 hb2
  · exact grows_13 a b w hb1 hb2
  · exact grows_14 a b w hb1 hb2
  · exact grows_15 a b w hb1 hb2
  · exact grows_16 a b w hb1 hb2
  · exact grows_17 a b w hb1 hb2
  · exact grows_18 a b w hb1 hb2
  · exact grows_19 a b w hb1 hb2
  · exact grows_20 a b w hb1 hb2
  · exact grows_odd op a b w hb1 hb2 h

theorem rgrows_1 (a : Int) (b : Int) (w : World) (hb1 : -1000000 ≤ b) (hb2 : b ≤ 1000000) : Calls Tryd.prog 21 #[.agg #[.int .i64 1, .int .i64 a, .int .i64 b]] w fun e w' => e = .returned (.int .i64 (growsV ⟨1, a, b⟩)) ∧ Below w.heap.size w w' := by
  go_enter Tryd.func21, Tryd.ntmps21
  go_wp2
  go_ret
  exact ⟨ret_int (by simp [growsV]; try omega), by (repeat' (first | (with_reducible exact Below.refl _ _) | (with_reducible assumption) | (with_reducible refine below_drewN ?_ _) | (with_reducible refine Below.alloc ?_ ?_ _) | (with_reducible refine Below.drew ?_) | (with_reducible refine Below.setCell ?_ ?_ _) | go_size))⟩
theorem rgrows_2 (a : Int) (b : Int) (w : World) (hb1 : -1000000 ≤ b) (hb2 : b ≤ 1000000) : Calls Tryd.prog 21 #[.agg #[.int .i64 2, .int .i64 a, .int .i64 b]] w fun e w' => e = .returned (.int .i64 (growsV ⟨2, a, b⟩)) ∧ Below w.heap.size w w' := by
  go_enter Tryd.func21, Tryd.ntmps21
  go_wp2
  go_ret
  exact ⟨ret_int (by simp [growsV]; try omega), by (repeat' (first | (with_reducible exact Below.refl _ _) | (with_reducible assumption) | (with_reducible refine below_drewN ?_ _) | (with_reducible refine Below.alloc ?_ ?_ _) | (with_reducible refine Below.drew ?_) | (with_reducible refine Below.setCell ?_ ?_ _) | go_size))⟩
theorem rgrows_3 (a : Int) (b : Int) (w : World) (hb1 : -1000000 ≤ b) (hb2 : b ≤ 1000000) : Calls Tryd.prog 21 #[.agg #[.int .i64 3, .int .i64 a, .int .i64 b]] w fun e w' => e = .returned (.int .i64 (growsV ⟨3, a, b⟩)) ∧ Below w.heap.size w w' := by
  go_enter Tryd.func21, Tryd.ntmps21
  go_wp2
  go_ret
  exact ⟨ret_int (by simp [growsV]; try omega), by (repeat' (first | (with_reducible exact Below.refl _ _) | (with_reducible assumption) | (with_reducible refine below_drewN ?_ _) | (with_reducible refine Below.alloc ?_ ?_ _) | (with_reducible refine Below.drew ?_) | (with_reducible refine Below.setCell ?_ ?_ _) | go_size))⟩
theorem rgrows_4 (a : Int) (b : Int) (w : World) (hb1 : -1000000 ≤ b) (hb2 : b ≤ 1000000) : Calls Tryd.prog 21 #[.agg #[.int .i64 4, .int .i64 a, .int .i64 b]] w fun e w' => e = .returned (.int .i64 (growsV ⟨4, a, b⟩)) ∧ Below w.heap.size w w' := by
  go_enter Tryd.func21, Tryd.ntmps21
  go_wp2
  go_ret
  exact ⟨ret_int (by simp [growsV]; try omega), by (repeat' (first | (with_reducible exact Below.refl _ _) | (with_reducible assumption) | (with_reducible refine below_drewN ?_ _) | (with_reducible refine Below.alloc ?_ ?_ _) | (with_reducible refine Below.drew ?_) | (with_reducible refine Below.setCell ?_ ?_ _) | go_size))⟩
theorem rgrows_5 (a : Int) (b : Int) (w : World) (hb1 : -1000000 ≤ b) (hb2 : b ≤ 1000000) : Calls Tryd.prog 21 #[.agg #[.int .i64 5, .int .i64 a, .int .i64 b]] w fun e w' => e = .returned (.int .i64 (growsV ⟨5, a, b⟩)) ∧ Below w.heap.size w w' := by
  go_enter Tryd.func21, Tryd.ntmps21
  go_wp2
  go_ret
  exact ⟨ret_int (by simp [growsV]; try omega), by (repeat' (first | (with_reducible exact Below.refl _ _) | (with_reducible assumption) | (with_reducible refine below_drewN ?_ _) | (with_reducible refine Below.alloc ?_ ?_ _) | (with_reducible refine Below.drew ?_) | (with_reducible refine Below.setCell ?_ ?_ _) | go_size))⟩
theorem rgrows_6 (a : Int) (b : Int) (w : World) (hb1 : -1000000 ≤ b) (hb2 : b ≤ 1000000) : Calls Tryd.prog 21 #[.agg #[.int .i64 6, .int .i64 a, .int .i64 b]] w fun e w' => e = .returned (.int .i64 (growsV ⟨6, a, b⟩)) ∧ Below w.heap.size w w' := by
  go_enter Tryd.func21, Tryd.ntmps21
  go_wp2
  go_ret
  exact ⟨ret_int (by simp [growsV]; try omega), by (repeat' (first | (with_reducible exact Below.refl _ _) | (with_reducible assumption) | (with_reducible refine below_drewN ?_ _) | (with_reducible refine Below.alloc ?_ ?_ _) | (with_reducible refine Below.drew ?_) | (with_reducible refine Below.setCell ?_ ?_ _) | go_size))⟩
theorem rgrows_7 (a : Int) (b : Int) (w : World) (hb1 : -1000000 ≤ b) (hb2 : b ≤ 1000000) : Calls Tryd.prog 21 #[.agg #[.int .i64 7, .int .i64 a, .int .i64 b]] w fun e w' => e = .returned (.int .i64 (growsV ⟨7, a, b⟩)) ∧ Below w.heap.size w w' := by
  go_enter Tryd.func21, Tryd.ntmps21
  go_wp2
  go_ret
  exact ⟨ret_int (by simp [growsV]; try omega), by (repeat' (first | (with_reducible exact Below.refl _ _) | (with_reducible assumption) | (with_reducible refine below_drewN ?_ _) | (with_reducible refine Below.alloc ?_ ?_ _) | (with_reducible refine Below.drew ?_) | (with_reducible refine Below.setCell ?_ ?_ _) | go_size))⟩
theorem rgrows_8 (a : Int) (b : Int) (w : World) (hb1 : -1000000 ≤ b) (hb2 : b ≤ 1000000) : Calls Tryd.prog 21 #[.agg #[.int .i64 8, .int .i64 a, .int .i64 b]] w fun e w' => e = .returned (.int .i64 (growsV ⟨8, a, b⟩)) ∧ Below w.heap.size w w' := by
  go_enter Tryd.func21, Tryd.ntmps21
  go_wp2
  go_ret
  exact ⟨ret_int (by simp [growsV]; try omega), by (repeat' (first | (with_reducible exact Below.refl _ _) | (with_reducible assumption) | (with_reducible refine below_drewN ?_ _) | (with_reducible refine Below.alloc ?_ ?_ _) | (with_reducible refine Below.drew ?_) | (with_reducible refine Below.setCell ?_ ?_ _) | go_size))⟩
theorem rgrows_9 (a : Int) (b : Int) (w : World) (hb1 : -1000000 ≤ b) (hb2 : b ≤ 1000000) : Calls Tryd.prog 21 #[.agg #[.int .i64 9, .int .i64 a, .int .i64 b]] w fun e w' => e = .returned (.int .i64 (growsV ⟨9, a, b⟩)) ∧ Below w.heap.size w w' := by
  go_enter Tryd.func21, Tryd.ntmps21
  go_wp2
  go_ret
  exact ⟨ret_int (by simp [growsV]; try omega), by (repeat' (first | (with_reducible exact Below.refl _ _) | (with_reducible assumption) | (with_reducible refine below_drewN ?_ _) | (with_reducible refine Below.alloc ?_ ?_ _) | (with_reducible refine Below.drew ?_) | (with_reducible refine Below.setCell ?_ ?_ _) | go_size))⟩
theorem rgrows_10 (a : Int) (b : Int) (w : World) (hb1 : -1000000 ≤ b) (hb2 : b ≤ 1000000) : Calls Tryd.prog 21 #[.agg #[.int .i64 10, .int .i64 a, .int .i64 b]] w fun e w' => e = .returned (.int .i64 (growsV ⟨10, a, b⟩)) ∧ Below w.heap.size w w' := by
  go_enter Tryd.func21, Tryd.ntmps21
  go_wp2
  go_ret
  exact ⟨ret_int (by simp [growsV]; try omega), by (repeat' (first | (with_reducible exact Below.refl _ _) | (with_reducible assumption) | (with_reducible refine below_drewN ?_ _) | (with_reducible refine Below.alloc ?_ ?_ _) | (with_reducible refine Below.drew ?_) | (with_reducible refine Below.setCell ?_ ?_ _) | go_size))⟩
theorem rgrows_11 (a : Int) (b : Int) (w : World) (hb1 : -1000000 ≤ b) (hb2 : b ≤ 1000000) : Calls Tryd.prog 21 #[.agg #[.int .i64 11, .int .i64 a, .int .i64 b]] w fun e w' => e = .returned (.int .i64 (growsV ⟨11, a, b⟩)) ∧ Below w.heap.size w w' := by
  go_enter Tryd.func21, Tryd.ntmps21
  go_wp2
  go_ret
  exact ⟨ret_int (by simp [growsV]; try omega), by (repeat' (first | (with_reducible exact Below.refl _ _) | (with_reducible assumption) | (with_reducible refine below_drewN ?_ _) | (with_reducible refine Below.alloc ?_ ?_ _) | (with_reducible refine Below.drew ?_) | (with_reducible refine Below.setCell ?_ ?_ _) | go_size))⟩
theorem rgrows_12 (a : Int) (b : Int) (w : World) (hb1 : -1000000 ≤ b) (hb2 : b ≤ 1000000) : Calls Tryd.prog 21 #[.agg #[.int .i64 12, .int .i64 a, .int .i64 b]] w fun e w' => e = .returned (.int .i64 (growsV ⟨12, a, b⟩)) ∧ Below w.heap.size w w' := by
  go_enter Tryd.func21, Tryd.ntmps21
  go_wp2
  go_ret
  exact ⟨ret_int (by simp [growsV]; try omega), by (repeat' (first | (with_reducible exact Below.refl _ _) | (with_reducible assumption) | (with_reducible refine below_drewN ?_ _) | (with_reducible refine Below.alloc ?_ ?_ _) | (with_reducible refine Below.drew ?_) | (with_reducible refine Below.setCell ?_ ?_ _) | go_size))⟩
theorem rgrows_13 (a : Int) (b : Int) (w : World) (hb1 : -1000000 ≤ b) (hb2 : b ≤ 1000000) : Calls Tryd.prog 21 #[.agg #[.int .i64 13, .int .i64 a, .int .i64 b]] w fun e w' => e = .returned (.int .i64 (growsV ⟨13, a, b⟩)) ∧ Below w.heap.size w w' := by
  go_enter Tryd.func21, Tryd.ntmps21
  go_wp2
  go_ret
  exact ⟨ret_int (by simp [growsV]; try omega), by (repeat' (first | (with_reducible exact Below.refl _ _) | (with_reducible assumption) | (with_reducible refine below_drewN ?_ _) | (with_reducible refine Below.alloc ?_ ?_ _) | (with_reducible refine Below.drew ?_) | (with_reducible refine Below.setCell ?_ ?_ _) | go_size))⟩
theorem rgrows_14 (a : Int) (b : Int) (w : World) (hb1 : -1000000 ≤ b) (hb2 : b ≤ 1000000) : Calls Tryd.prog 21 #[.agg #[.int .i64 14, .int .i64 a, .int .i64 b]] w fun e w' => e = .returned (.int .i64 (growsV ⟨14, a, b⟩)) ∧ Below w.heap.size w w' := by
  go_enter Tryd.func21, Tryd.ntmps21
  go_wp2
  go_ret
  exact ⟨ret_int (by simp [growsV]; try omega), by (repeat' (first | (with_reducible exact Below.refl _ _) | (with_reducible assumption) | (with_reducible refine below_drewN ?_ _) | (with_reducible refine Below.alloc ?_ ?_ _) | (with_reducible refine Below.drew ?_) | (with_reducible refine Below.setCell ?_ ?_ _) | go_size))⟩
theorem rgrows_15 (a : Int) (b : Int) (w : World) (hb1 : -1000000 ≤ b) (hb2 : b ≤ 1000000) : Calls Tryd.prog 21 #[.agg #[.int .i64 15, .int .i64 a, .int .i64 b]] w fun e w' => e = .returned (.int .i64 (growsV ⟨15, a, b⟩)) ∧ Below w.heap.size w w' := by
  go_enter Tryd.func21, Tryd.ntmps21
  go_wp2
  go_ret
  exact ⟨ret_int (by simp [growsV]; try omega), by (repeat' (first | (with_reducible exact Below.refl _ _) | (with_reducible assumption) | (with_reducible refine below_drewN ?_ _) | (with_reducible refine Below.alloc ?_ ?_ _) | (with_reducible refine Below.drew ?_) | (with_reducible refine Below.setCell ?_ ?_ _) | go_size))⟩
theorem rgrows_16 (a : Int) (b : Int) (w : World) (hb1 : -1000000 ≤ b) (hb2 : b ≤ 1000000) : Calls Tryd.prog 21 #[.agg #[.int .i64 16, .int .i64 a, .int .i64 b]] w fun e w' => e = .returned (.int .i64 (growsV ⟨16, a, b⟩)) ∧ Below w.heap.size w w' := by
  go_enter Tryd.func21, Tryd.ntmps21
  go_wp2
  go_ret
  exact ⟨ret_int (by simp [growsV]; try omega), by (repeat' (first | (with_reducible exact Below.refl _ _) | (with_reducible assumption) | (with_reducible refine below_drewN ?_ _) | (with_reducible refine Below.alloc ?_ ?_ _) | (with_reducible refine Below.drew ?_) | (with_reducible refine Below.setCell ?_ ?_ _) | go_size))⟩
theorem rgrows_17 (a : Int) (b : Int) (w : World) (hb1 : -1000000 ≤ b) (hb2 : b ≤ 1000000) : Calls Tryd.prog 21 #[.agg #[.int .i64 17, .int .i64 a, .int .i64 b]] w fun e w' => e = .returned (.int .i64 (growsV ⟨17, a, b⟩)) ∧ Below w.heap.size w w' := by
  go_enter Tryd.func21, Tryd.ntmps21
  go_wp2
  go_ret
  exact ⟨ret_int (by simp [growsV]; try omega), by (repeat' (first | (with_reducible exact Below.refl _ _) | (with_reducible assumption) | (with_reducible refine below_drewN ?_ _) | (with_reducible refine Below.alloc ?_ ?_ _) | (with_reducible refine Below.drew ?_) | (with_reducible refine Below.setCell ?_ ?_ _) | go_size))⟩
theorem rgrows_18 (a : Int) (b : Int) (w : World) (hb1 : -1000000 ≤ b) (hb2 : b ≤ 1000000) : Calls Tryd.prog 21 #[.agg #[.int .i64 18, .int .i64 a, .int .i64 b]] w fun e w' => e = .returned (.int .i64 (growsV ⟨18, a, b⟩)) ∧ Below w.heap.size w w' := by
  go_enter Tryd.func21, Tryd.ntmps21
  go_wp2
  go_ret
  exact ⟨ret_int (by simp [growsV]; try omega), by (repeat' (first | (with_reducible exact Below.refl _ _) | (with_reducible assumption) | (with_reducible refine below_drewN ?_ _) | (with_reducible refine Below.alloc ?_ ?_ _) | (with_reducible refine Below.drew ?_) | (with_reducible refine Below.setCell ?_ ?_ _) | go_size))⟩
theorem rgrows_19 (a : Int) (b : Int) (w : World) (hb1 : -1000000 ≤ b) (hb2 : b ≤ 1000000) : Calls Tryd.prog 21 #[.agg #[.int .i64 19, .int .i64 a, .int .i64 b]] w fun e w' => e = .returned (.int .i64 (growsV ⟨19, a, b⟩)) ∧ Below w.heap.size w w' := by
  go_enter Tryd.func21, Tryd.ntmps21
  go_wp2
  go_ret
  exact ⟨ret_int (by simp [growsV]; try omega), by (repeat' (first | (with_reducible exact Below.refl _ _) | (with_reducible assumption) | (with_reducible refine below_drewN ?_ _) | (with_reducible refine Below.alloc ?_ ?_ _) | (with_reducible refine Below.drew ?_) | (with_reducible refine Below.setCell ?_ ?_ _) | go_size))⟩
theorem rgrows_20 (a : Int) (b : Int) (w : World) (hb1 : -1000000 ≤ b) (hb2 : b ≤ 1000000) : Calls Tryd.prog 21 #[.agg #[.int .i64 20, .int .i64 a, .int .i64 b]] w fun e w' => e = .returned (.int .i64 (growsV ⟨20, a, b⟩)) ∧ Below w.heap.size w w' := by
  go_enter Tryd.func21, Tryd.ntmps21
  go_wp2
  go_ret
  exact ⟨ret_int (by simp [growsV]; try omega), by (repeat' (first | (with_reducible exact Below.refl _ _) | (with_reducible assumption) | (with_reducible refine below_drewN ?_ _) | (with_reducible refine Below.alloc ?_ ?_ _) | (with_reducible refine Below.drew ?_) | (with_reducible refine Below.setCell ?_ ?_ _) | go_size))⟩
theorem rgrows_odd (op : Int) (a : Int) (b : Int) (w : World) (hb1 : -1000000 ≤ b) (hb2 : b ≤ 1000000) (ho : op < 1 ∨ 20 < op) : Calls Tryd.prog 21 #[.agg #[.int .i64 op, .int .i64 a, .int .i64 b]] w fun e w' => e = .returned (.int .i64 (growsV ⟨op, a, b⟩)) ∧ Below w.heap.size w w' := by
  have n1 : (op == 1) = false := by simp; omega
  have m1 : (op != 1) = true := by simp; omega
  have n2 : (op == 2) = false := by simp; omega
  have m2 : (op != 2) = true := by simp; omega
  have n3 : (op == 3) = false := by simp; omega
  have m3 : (op != 3) = true := by simp; omega
  have n4 : (op == 4) = false := by simp; omega
  have m4 : (op != 4) = true := by simp; omega
  have n5 : (op == 5) = false := by simp; omega
  have m5 : (op != 5) = true := by simp; omega
  have n6 : (op == 6) = false := by simp; omega
  have m6 : (op != 6) = true := by simp; omega
  have n7 : (op == 7) = false := by simp; omega
  have m7 : (op != 7) = true := by simp; omega
  have n8 : (op == 8) = false := by simp; omega
  have m8 : (op != 8) = true := by simp; omega
  have n9 : (op == 9) = false := by simp; omega
  have m9 : (op != 9) = true := by simp; omega
  have n10 : (op == 10) = false := by simp; omega
  have m10 : (op != 10) = true := by simp; omega
  have n11 : (op == 11) = false := by simp; omega
  have m11 : (op != 11) = true := by simp; omega
  have n12 : (op == 12) = false := by simp; omega
  have m12 : (op != 12) = true := by simp; omega
  have n13 : (op == 13) = false := by simp; omega
  have m13 : (op != 13) = true := by simp; omega
  have n14 : (op == 14) = false := by simp; omega
  have m14 : (op != 14) = true := by simp; omega
  have n15 : (op == 15) = false := by simp; omega
  have m15 : (op != 15) = true := by simp; omega
  have n16 : (op == 16) = false := by simp; omega
  have m16 : (op != 16) = true := by simp; omega
  have n17 : (op == 17) = false := by simp; omega
  have m17 : (op != 17) = true := by simp; omega
  have n18 : (op == 18) = false := by simp; omega
  have m18 : (op != 18) = true := by simp; omega
  have n19 : (op == 19) = false := by simp; omega
  have m19 : (op != 19) = true := by simp; omega
  have n20 : (op == 20) = false := by simp; omega
  have m20 : (op != 20) = true := by simp; omega
  have HO := Lib.hid ho
  clear ho
  go_enter Tryd.func21, Tryd.ntmps21
  rcases HO.out with ho | ho
  · have d1 : ¬ 1 ≤ op := by omega
    have d6 : ¬ 6 ≤ op := by omega
    have d14 : ¬ 14 ≤ op := by omega
    go_wp2
    go_ret
    exact ⟨ret_int (by simp [growsV]; try omega), by (repeat' (first | (with_reducible exact Below.refl _ _) | (with_reducible assumption) | (with_reducible refine below_drewN ?_ _) | (with_reducible refine Below.alloc ?_ ?_ _) | (with_reducible refine Below.drew ?_) | (with_reducible refine Below.setCell ?_ ?_ _) | go_size))⟩
  · have d9 : ¬ op ≤ 9 := by omega
    have d11 : ¬ op ≤ 11 := by omega
    have d18 : ¬ op ≤ 18 := by omega
    go_wp2
    go_ret
    exact ⟨ret_int (by simp [growsV]; try omega), by (repeat' (first | (with_reducible exact Below.refl _ _) | (with_reducible assumption) | (with_reducible refine below_drewN ?_ _) | (with_reducible refine Below.alloc ?_ ?_ _) | (with_reducible refine Below.drew ?_) | (with_reducible refine Below.setCell ?_ ?_ _) | go_size))⟩
theorem rgrows_any (op : Int) (a : Int) (b : Int) (w : World) (hb1 : -1000000 ≤ b) (hb2 : b ≤ 1000000) : Calls Tryd.prog 21 #[.agg #[.int .i64 op, .int .i64 a, .int .i64 b]] w fun e w' => e = .returned (.int .i64 (growsV ⟨op, a, b⟩)) ∧ Below w.heap.size w w' := by
  rcases op_cases op with rfl | rfl | rfl | rfl | rfl | rfl | rfl | rfl | rfl | rfl | rfl | rfl | rfl | rfl | rfl | rfl | rfl | rfl | rfl | rfl | h

  · exact rgrows_1 a b w hb1 hb2
  · exact rgrows_2 a b w hb1 hb2
  · exact rgrows_3 a b w hb1 hb2
  · exact rgrows_4 a b w hb1 hb2
  · exact rgrows_5 a b w hb1 hb2
  · exact rgrows_6 a b w hb1 hb2
  · exact rgrows_7 a b w hb1 hb2
  · exact rgrows_8 a b w hb1 hb2
  · exact rgrows_9 a b w hb1 hb2
  · exact rgrows_10 a b w hb1 hb2
  · exact rgrows_11 a b w hb1 hb2
  · exact rgrows_12 a b w hb1 hb2
  · exact rgrows_13 a b w hb1 hb2
  · exact rgrows_14 a b w hb1 hb2
  · exact rgrows_15 a b w hb1 hb2
  · exact rgrows_16 a b w hb1 hb2
  · exact rgrows_17 a b w hb1 hb2
  · exact rgrows_18 a b w hb1 hb2
  · exact rgrows_19 a b w hb1 hb2
  · exact rgrows_20 a b w hb1 hb2
  · exact rgrows_odd op a b w hb1 hb2 h

theorem uses_1  (w : World)  : Calls Tryd.prog 28 #[.int .i64 1] w fun e w' => e = .returned (.tuple #[.bool (decide (0 < usesV 1)), .bool (decide (1 < usesV 1))]) ∧ w' = w := by
  go_enter Tryd.func28, Tryd.ntmps28
  go_wp2
  go_ret2
  exact ⟨ret_bb (by first | (simp [usesV]; done) | (rw [uses_zero HO.out]; rfl)) (by first | (simp [usesV]; done) | (rw [uses_zero HO.out]; rfl)), rfl⟩
theorem uses_2  (w : World)  : Calls Tryd.prog 28 #[.int .i64 2] w fun e w' => e = .returned (.tuple #[.bool (decide (0 < usesV 2)), .bool (decide (1 < usesV 2))]) ∧ w' = w := by
  go_enter Tryd.func28, Tryd.ntmps28
  go_wp2
  go_ret2
  exact ⟨ret_bb (by first | (simp [usesV]; done) | (rw [uses_zero HO.out]; rfl)) (by first | (simp [usesV]; done) | (rw [uses_zero HO.out]; rfl)), rfl⟩
theorem uses_3  (w : World)  : Calls Tryd.prog 28 #[.int .i64 3] w fun e w' => e = .returned (.tuple #[.bool (decide (0 < usesV 3)), .bool (decide (1 < usesV 3))]) ∧ w' = w := by
  go_enter Tryd.func28, Tryd.ntmps28
  go_wp2
  go_ret2
  exact ⟨ret_bb (by first | (simp [usesV]; done) | (rw [uses_zero HO.out]; rfl)) (by first | (simp [usesV]; done) | (rw [uses_zero HO.out]; rfl)), rfl⟩
theorem uses_4  (w : World)  : Calls Tryd.prog 28 #[.int .i64 4] w fun e w' => e = .returned (.tuple #[.bool (decide (0 < usesV 4)), .bool (decide (1 < usesV 4))]) ∧ w' = w := by
  go_enter Tryd.func28, Tryd.ntmps28
  go_wp2
  go_ret2
  exact ⟨ret_bb (by first | (simp [usesV]; done) | (rw [uses_zero HO.out]; rfl)) (by first | (simp [usesV]; done) | (rw [uses_zero HO.out]; rfl)), rfl⟩
theorem uses_5  (w : World)  : Calls Tryd.prog 28 #[.int .i64 5] w fun e w' => e = .returned (.tuple #[.bool (decide (0 < usesV 5)), .bool (decide (1 < usesV 5))]) ∧ w' = w := by
  go_enter Tryd.func28, Tryd.ntmps28
  go_wp2
  go_ret2
  exact ⟨ret_bb (by first | (simp [usesV]; done) | (rw [uses_zero HO.out]; rfl)) (by first | (simp [usesV]; done) | (rw [uses_zero HO.out]; rfl)), rfl⟩
theorem uses_6  (w : World)  : Calls Tryd.prog 28 #[.int .i64 6] w fun e w' => e = .returned (.tuple #[.bool (decide (0 < usesV 6)), .bool (decide (1 < usesV 6))]) ∧ w' = w := by
  go_enter Tryd.func28, Tryd.ntmps28
  go_wp2
  go_ret2
  exact ⟨ret_bb (by first | (simp [usesV]; done) | (rw [uses_zero HO.out]; rfl)) (by first | (simp [usesV]; done) | (rw [uses_zero HO.out]; rfl)), rfl⟩
theorem uses_7  (w : World)  : Calls Tryd.prog 28 #[.int .i64 7] w fun e w' => e = .returned (.tuple #[.bool (decide (0 < usesV 7)), .bool (decide (1 < usesV 7))]) ∧ w' = w := by
  go_enter Tryd.func28, Tryd.ntmps28
  go_wp2
  go_ret2
  exact ⟨ret_bb (by first | (simp [usesV]; done) | (rw [uses_zero HO.out]; rfl)) (by first | (simp [usesV]; done) | (rw [uses_zero HO.out]; rfl)), rfl⟩
theorem uses_8  (w : World)  : Calls Tryd.prog 28 #[.int .i64 8] w fun e w' => e = .returned (.tuple #[.bool (decide (0 < usesV 8)), .bool (decide (1 < usesV 8))]) ∧ w' = w := by
  go_enter Tryd.func28, Tryd.ntmps28
  go_wp2
  go_ret2
  exact ⟨ret_bb (by first | (simp [usesV]; done) | (rw [uses_zero HO.out]; rfl)) (by first | (simp [usesV]; done) | (rw [uses_zero HO.out]; rfl)), rfl⟩
theorem uses_9  (w : World)  : Calls Tryd.prog 28 #[.int .i64 9] w fun e w' => e = .returned (.tuple #[.bool (decide (0 < usesV 9)), .bool (decide (1 < usesV 9))]) ∧ w' = w := by
  go_enter Tryd.func28, Tryd.ntmps28
  go_wp2
  go_ret2
  exact ⟨ret_bb (by first | (simp [usesV]; done) | (rw [uses_zero HO.out]; rfl)) (by first | (simp [usesV]; done) | (rw [uses_zero HO.out]; rfl)), rfl⟩
theorem uses_10  (w : World)  : Calls Tryd.prog 28 #[.int .i64 10] w fun e w' => e = .returned (.tuple #[.bool (decide (0 < usesV 10)), .bool (decide (1 < usesV 10))]) ∧ w' = w := by
  go_enter Tryd.func28, Tryd.ntmps28
  go_wp2
  go_ret2
  exact ⟨ret_bb (by first | (simp [usesV]; done) | (rw [uses_zero HO.out]; rfl)) (by first | (simp [usesV]; done) | (rw [uses_zero HO.out]; rfl)), rfl⟩
theorem uses_11  (w : World)  : Calls Tryd.prog 28 #[.int .i64 11] w fun e w' => e = .returned (.tuple #[.bool (decide (0 < usesV 11)), .bool (decide (1 < usesV 11))]) ∧ w' = w := by
  go_enter Tryd.func28, Tryd.ntmps28
  go_wp2
  go_ret2
  exact ⟨ret_bb (by first | (simp [usesV]; done) | (rw [uses_zero HO.out]; rfl)) (by first | (simp [usesV]; done) | (rw [uses_zero HO.out]; rfl)), rfl⟩
theorem uses_12  (w : World)  : Calls Tryd.prog 28 #[.int .i64 12] w fun e w' => e = .returned (.tuple #[.bool (decide (0 < usesV 12)), .bool (decide (1 < usesV 12))]) ∧ w' = w := by
  go_enter Tryd.func28, Tryd.ntmps28
  go_wp2
  go_ret2
  exact ⟨ret_bb (by first | (simp [usesV]; done) | (rw [uses_zero HO.out]; rfl)) (by first | (simp [usesV]; done) | (rw [uses_zero HO.out]; rfl)), rfl⟩
theorem uses_13  (w : World)  : Calls Tryd.prog 28 #[.int .i64 13] w fun e w' => e = .returned (.tuple #[.bool (decide (0 < usesV 13)), .bool (decide (1 < usesV 13))]) ∧ w' = w := by
  go_enter Tryd.func28, Tryd.ntmps28
  go_wp2
  go_ret2
  exact ⟨ret_bb (by first | (simp [usesV]; done) | (rw [uses_zero HO.out]; rfl)) (by first | (simp [usesV]; done) | (rw [uses_zero HO.out]; rfl)), rfl⟩
theorem uses_14  (w : World)  : Calls Tryd.prog 28 #[.int .i64 14] w fun e w' => e = .returned (.tuple #[.bool (decide (0 < usesV 14)), .bool (decide (1 < usesV 14))]) ∧ w' = w := by
  go_enter Tryd.func28, Tryd.ntmps28
  go_wp2
  go_ret2
  exact ⟨ret_bb (by first | (simp [usesV]; done) | (rw [uses_zero HO.out]; rfl)) (by first | (simp [usesV]; done) | (rw [uses_zero HO.out]; rfl)), rfl⟩
theorem uses_15  (w : World)  : Calls Tryd.prog 28 #[.int .i64 15] w fun e w' => e = .returned (.tuple #[.bool (decide (0 < usesV 15)), .bool (decide (1 < usesV 15))]) ∧ w' = w := by
  go_enter Tryd.func28, Tryd.ntmps28
  go_wp2
  go_ret2
  exact ⟨ret_bb (by first | (simp [usesV]; done) | (rw [uses_zero HO.out]; rfl)) (by first | (simp [usesV]; done) | (rw [uses_zero HO.out]; rfl)), rfl⟩
theorem uses_16  (w : World)  : Calls Tryd.prog 28 #[.int .i64 16] w fun e w' => e = .returned (.tuple #[.bool (decide (0 < usesV 16)), .bool (decide (1 < usesV 16))]) ∧ w' = w := by
  go_enter Tryd.func28, Tryd.ntmps28
  go_wp2
  go_ret2
  exact ⟨ret_bb (by first | (simp [usesV]; done) | (rw [uses_zero HO.out]; rfl)) (by first | (simp [usesV]; done) | (rw [uses_zero HO.out]; rfl)), rfl⟩
theorem uses_17  (w : World)  : Calls Tryd.prog 28 #[.int .i64 17] w fun e w' => e = .returned (.tuple #[.bool (decide (0 < usesV 17)), .bool (decide (1 < usesV 17))]) ∧ w' = w := by
  go_enter Tryd.func28, Tryd.ntmps28
  go_wp2
  go_ret2
  exact ⟨ret_bb (by first | (simp [usesV]; done) | (rw [uses_zero HO.out]; rfl)) (by first | (simp [usesV]; done) | (rw [uses_zero HO.out]; rfl)), rfl⟩
theorem uses_18  (w : World)  : Calls Tryd.prog 28 #[.int .i64 18] w fun e w' => e = .returned (.tuple #[.bool (decide (0 < usesV 18)), .bool (decide (1 < usesV 18))]) ∧ w' = w := by
  go_enter Tryd.func28, Tryd.ntmps28
  go_wp2
  go_ret2
  exact ⟨ret_bb (by first | (simp [usesV]; done) | (rw [uses_zero HO.out]; rfl)) (by first | (simp [usesV]; done) | (rw [uses_zero HO.out]; rfl)), rfl⟩
theorem uses_19  (w : World)  : Calls Tryd.prog 28 #[.int .i64 19] w fun e w' => e = .returned (.tuple #[.bool (decide (0 < usesV 19)), .bool (decide (1 < usesV 19))]) ∧ w' = w := by
  go_enter Tryd.func28, Tryd.ntmps28
  go_wp2
  go_ret2
  exact ⟨ret_bb (by first | (simp [usesV]; done) | (rw [uses_zero HO.out]; rfl)) (by first | (simp [usesV]; done) | (rw [uses_zero HO.out]; rfl)), rfl⟩
theorem uses_20  (w : World)  : Calls Tryd.prog 28 #[.int .i64 20] w fun e w' => e = .returned (.tuple #[.bool (decide (0 < usesV 20)), .bool (decide (1 < usesV 20))]) ∧ w' = w := by
  go_enter Tryd.func28, Tryd.ntmps28
  go_wp2
  go_ret2
  exact ⟨ret_bb (by first | (simp [usesV]; done) | (rw [uses_zero HO.out]; rfl)) (by first | (simp [usesV]; done) | (rw [uses_zero HO.out]; rfl)), rfl⟩
theorem uses_odd (op : Int)  (w : World)  (ho : op < 1 ∨ 20 < op) : Calls Tryd.prog 28 #[.int .i64 op] w fun e w' => e = .returned (.tuple #[.bool (decide (0 < usesV op)), .bool (decide (1 < usesV op))]) ∧ w' = w := by
  have n1 : (op == 1) = false := by simp; omega
  have m1 : (op != 1) = true := by simp; omega
  have n2 : (op == 2) = false := by simp; omega
  have m2 : (op != 2) = true := by simp; omega
  have n3 : (op == 3) = false := by simp; omega
  have m3 : (op != 3) = true := by simp; omega
  have n4 : (op == 4) = false := by simp; omega
  have m4 : (op != 4) = true := by simp; omega
  have n5 : (op == 5) = false := by simp; omega
  have m5 : (op != 5) = true := by simp; omega
  have n6 : (op == 6) = false := by simp; omega
  have m6 : (op != 6) = true := by simp; omega
  have n7 : (op == 7) = false := by simp; omega
  have m7 : (op != 7) = true := by simp; omega
  have n8 : (op == 8) = false := by simp; omega
  have m8 : (op != 8) = true := by simp; omega
  have n9 : (op == 9) = false := by simp; omega
  have m9 : (op != 9) = true := by simp; omega
  have n10 : (op == 10) = false := by simp; omega
  have m10 : (op != 10) = true := by simp; omega
  have n11 : (op == 11) = false := by simp; omega
  have m11 : (op != 11) = true := by simp; omega
  have n12 : (op == 12) = false := by simp; omega
  have m12 : (op != 12) = true := by simp; omega
  have n13 : (op == 13) = false := by simp; omega
  have m13 : (op != 13) = true := by simp; omega
  have n14 : (op == 14) = false := by simp; omega
  have m14 : (op != 14) = true := by simp; omega
  have n15 : (op == 15) = false := by simp; omega
  have m15 : (op != 15) = true := by simp; omega
  have n16 : (op == 16) = false := by simp; omega
  have m16 : (op != 16) = true := by simp; omega
  have n17 : (op == 17) = false := by simp; omega
  have m17 : (op != 17) = true := by simp; omega
  have n18 : (op == 18) = false := by simp; omega
  have m18 : (op != 18) = true := by simp; omega
  have n19 : (op == 19) = false := by simp; omega
  have m19 : (op != 19) = true := by simp; omega
  have n20 : (op == 20) = false := by simp; omega
  have m20 : (op != 20) = true := by simp; omega
  have HO := Lib.hid ho
  clear ho
  go_enter Tryd.func28, Tryd.ntmps28
  rcases HO.out with ho | ho
  · have d1 : ¬ 1 ≤ op := by omega
    have d6 : ¬ 6 ≤ op := by omega
    have d14 : ¬ 14 ≤ op := by omega
    go_wp2
    go_ret2
    exact ⟨ret_bb (by first | (simp [usesV]; done) | (rw [uses_zero HO.out]; rfl)) (by first | (simp [usesV]; done) | (rw [uses_zero HO.out]; rfl)), rfl⟩
  · have d9 : ¬ op ≤ 9 := by omega
    have d11 : ¬ op ≤ 11 := by omega
    have d18 : ¬ op ≤ 18 := by omega
    go_wp2
    go_ret2
    exact ⟨ret_bb (by first | (simp [usesV]; done) | (rw [uses_zero HO.out]; rfl)) (by first | (simp [usesV]; done) | (rw [uses_zero HO.out]; rfl)), rfl⟩
theorem uses_any (op : Int)  (w : World)  : Calls Tryd.prog 28 #[.int .i64 op] w fun e w' => e = .returned (.tuple #[.bool (decide (0 < usesV op)), .bool (decide (1 < usesV op))]) ∧ w' = w := by
  rcases op_cases op with rfl | rfl | rfl | rfl | rfl | rfl | rfl | rfl | rfl | rfl | rfl | rfl | rfl | rfl | rfl | rfl | rfl | rfl | rfl | rfl | h

  · exact uses_1  w 
  · exact uses_2  w 
  · exact uses_3  w 
  · exact uses_4  w 
  · exact uses_5  w 
  · exact uses_6  w 
  · exact uses_7  w 
  · exact uses_8  w 
  · exact uses_9  w 
  · exact uses_10  w 
  · exact uses_11  w 
  · exact uses_12  w 
  · exact uses_13  w 
  · exact uses_14  w 
  · exact uses_15  w 
  · exact uses_16  w 
  · exact uses_17  w 
  · exact uses_18  w 
  · exact uses_19  w 
  · exact uses_20  w 
  · exact uses_odd op  w  h

theorem ruses_1  (w : World)  : Calls Tryd.prog 30 #[.int .i64 1] w fun e w' => e = .returned (.int .i64 (usesV 1)) ∧ w' = w := by
  go_enter Tryd.func30, Tryd.ntmps30
  go_wp2
  go_ret
  exact ⟨ret_int (by first | (simp [usesV]; done) | (rw [uses_zero HO.out])), rfl⟩
theorem ruses_2  (w : World)  : Calls Tryd.prog 30 #[.int .i64 2] w fun e w' => e = .returned (.int .i64 (usesV 2)) ∧ w' = w := by
  go_enter Tryd.func30, Tryd.ntmps30
  go_wp2
  go_ret
  exact ⟨ret_int (by first | (simp [usesV]; done) | (rw [uses_zero HO.out])), rfl⟩
theorem ruses_3  (w : World)  : Calls Tryd.prog 30 #[.int .i64 3] w fun e w' => e = .returned (.int .i64 (usesV 3)) ∧ w' = w := by
  go_enter Tryd.func30, Tryd.ntmps30
  go_wp2
  go_ret
  exact ⟨ret_int (by first | (simp [usesV]; done) | (rw [uses_zero HO.out])), rfl⟩
theorem ruses_4  (w : World)  : Calls Tryd.prog 30 #[.int .i64 4] w fun e w' => e = .returned (.int .i64 (usesV 4)) ∧ w' = w := by
  go_enter Tryd.func30, Tryd.ntmps30
  go_wp2
  go_ret
  exact ⟨ret_int (by first | (simp [usesV]; done) | (rw [uses_zero HO.out])), rfl⟩
theorem ruses_5  (w : World)  : Calls Tryd.prog 30 #[.int .i64 5] w fun e w' => e = .returned (.int .i64 (usesV 5)) ∧ w' = w := by
  go_enter Tryd.func30, Tryd.ntmps30
  go_wp2
  go_ret
  exact ⟨ret_int (by first | (simp [usesV]; done) | (rw [uses_zero HO.out])), rfl⟩
theorem ruses_6  (w : World)  : Calls Tryd.prog 30 #[.int .i64 6] w fun e w' => e = .returned (.int .i64 (usesV 6)) ∧ w' = w := by
  go_enter Tryd.func30, Tryd.ntmps30
  go_wp2
  go_ret
  exact ⟨ret_int (by first | (simp [usesV]; done) | (rw [uses_zero HO.out])), rfl⟩
theorem ruses_7  (w : World)  : Calls Tryd.prog 30 #[.int .i64 7] w fun e w' => e = .returned (.int .i64 (usesV 7)) ∧ w' = w := by
  go_enter Tryd.func30, Tryd.ntmps30
  go_wp2
  go_ret
  exact ⟨ret_int (by first | (simp [usesV]; done) | (rw [uses_zero HO.out])), rfl⟩
theorem ruses_8  (w : World)  : Calls Tryd.prog 30 #[.int .i64 8] w fun e w' => e = .returned (.int .i64 (usesV 8)) ∧ w' = w := by
  go_enter Tryd.func30, Tryd.ntmps30
  go_wp2
  go_ret
  exact ⟨ret_int (by first | (simp [usesV]; done) | (rw [uses_zero HO.out])), rfl⟩
theorem ruses_9  (w : World)  : Calls Tryd.prog 30 #[.int .i64 9] w fun e w' => e = .returned (.int .i64 (usesV 9)) ∧ w' = w := by
  go_enter Tryd.func30, Tryd.ntmps30
  go_wp2
  go_ret
  exact ⟨ret_int (by first | (simp [usesV]; done) | (rw [uses_zero HO.out])), rfl⟩
theorem ruses_10  (w : World)  : Calls Tryd.prog 30 #[.int .i64 10] w fun e w' => e = .returned (.int .i64 (usesV 10)) ∧ w' = w := by
  go_enter Tryd.func30, Tryd.ntmps30
  go_wp2
  go_ret
  exact ⟨ret_int (by first | (simp [usesV]; done) | (rw [uses_zero HO.out])), rfl⟩
theorem ruses_11  (w : World)  : Calls Tryd.prog 30 #[.int .i64 11] w fun e w' => e = .returned (.int .i64 (usesV 11)) ∧ w' = w := by
  go_enter Tryd.func30, Tryd.ntmps30
  go_wp2
  go_ret
  exact ⟨ret_int (by first | (simp [usesV]; done) | (rw [uses_zero HO.out])), rfl⟩
theorem ruses_12  (w : World)  : Calls Tryd.prog 30 #[.int .i64 12] w fun e w' => e = .returned (.int .i64 (usesV 12)) ∧ w' = w := by
  go_enter Tryd.func30, Tryd.ntmps30
  go_wp2
  go_ret
  exact ⟨ret_int (by first | (simp [usesV]; done) | (rw [uses_zero HO.out])), rfl⟩
theorem ruses_13  (w : World)  : Calls Tryd.prog 30 #[.int .i64 13] w fun e w' => e = .returned (.int .i64 (usesV 13)) ∧ w' = w := by
  go_enter Tryd.func30, Tryd.ntmps30
  go_wp2
  go_ret
  exact ⟨ret_int (by first | (simp [usesV]; done) | (rw [uses_zero HO.out])), rfl⟩
theorem ruses_14  (w : World)  : Calls Tryd.prog 30 #[.int .i64 14] w fun e w' => e = .returned (.int .i64 (usesV 14)) ∧ w' = w := by
  go_enter Tryd.func30, Tryd.ntmps30
  go_wp2
  go_ret
  exact ⟨ret_int (by first | (simp [usesV]; done) | (rw [uses_zero HO.out])), rfl⟩
theorem ruses_15  (w : World)  : Calls Tryd.prog 30 #[.int .i64 15] w fun e w' => e = .returned (.int .i64 (usesV 15)) ∧ w' = w := by
  go_enter Tryd.func30, Tryd.ntmps30
  go_wp2
  go_ret
  exact ⟨ret_int (by first | (simp [usesV]; done) | (rw [uses_zero HO.out])), rfl⟩
theorem ruses_16  (w : World)  : Calls Tryd.prog 30 #[.int .i64 16] w fun e w' => e = .returned (.int .i64 (usesV 16)) ∧ w' = w := by
  go_enter Tryd.func30, Tryd.ntmps30
  go_wp2
  go_ret
  exact ⟨ret_int (by first | (simp [usesV]; done) | (rw [uses_zero HO.out])), rfl⟩
theorem ruses_17  (w : World)  : Calls Tryd.prog 30 #[.int .i64 17] w fun e w' => e = .returned (.int .i64 (usesV 17)) ∧ w' = w := by
  go_enter Tryd.func30, Tryd.ntmps30
  go_wp2
  go_ret
  exact ⟨ret_int (by first | (simp [usesV]; done) | (rw [uses_zero HO.out])), rfl⟩
theorem ruses_18  (w : World)  : Calls Tryd.prog 30 #[.int .i64 18] w fun e w' => e = .returned (.int .i64 (usesV 18)) ∧ w' = w := by
  go_enter Tryd.func30, Tryd.ntmps30
  go_wp2
  go_ret
  exact ⟨ret_int (by first | (simp [usesV]; done) | (rw [uses_zero HO.out])), rfl⟩
theorem ruses_19  (w : World)  : Calls Tryd.prog 30 #[.int .i64 19] w fun e w' => e = .returned (.int .i64 (usesV 19)) ∧ w' = w := by
  go_enter Tryd.func30, Tryd.ntmps30
  go_wp2
  go_ret
  exact ⟨ret_int (by first | (simp [usesV]; done) | (rw [uses_zero HO.out])), rfl⟩
theorem ruses_20  (w : World)  : Calls Tryd.prog 30 #[.int .i64 20] w fun e w' => e = .returned (.int .i64 (usesV 20)) ∧ w' = w := by
  go_enter Tryd.func30, Tryd.ntmps30
  go_wp2
  go_ret
  exact ⟨ret_int (by first | (simp [usesV]; done) | (rw [uses_zero HO.out])), rfl⟩
theorem ruses_odd (op : Int)  (w : World)  (ho : op < 1 ∨ 20 < op) : Calls Tryd.prog 30 #[.int .i64 op] w fun e w' => e = .returned (.int .i64 (usesV op)) ∧ w' = w := by
  have n1 : (op == 1) = false := by simp; omega
  have m1 : (op != 1) = true := by simp; omega
  have n2 : (op == 2) = false := by simp; omega
  have m2 : (op != 2) = true := by simp; omega
  have n3 : (op == 3) = false := by simp; omega
  have m3 : (op != 3) = true := by simp; omega
  have n4 : (op == 4) = false := by simp; omega
  have m4 : (op != 4) = true := by simp; omega
  have n5 : (op == 5) = false := by simp; omega
  have m5 : (op != 5) = true := by simp; omega
  have n6 : (op == 6) = false := by simp; omega
  have m6 : (op != 6) = true := by simp; omega
  have n7 : (op == 7) = false := by simp; omega
  have m7 : (op != 7) = true := by simp; omega
  have n8 : (op == 8) = false := by simp; omega
  have m8 : (op != 8) = true := by simp; omega
  have n9 : (op == 9) = false := by simp; omega
  have m9 : (op != 9) = true := by simp; omega
  have n10 : (op == 10) = false := by simp; omega
  have m10 : (op != 10) = true := by simp; omega
  have n11 : (op == 11) = false := by simp; omega
  have m11 : (op != 11) = true := by simp; omega
  have n12 : (op == 12) = false := by simp; omega
  have m12 : (op != 12) = true := by simp; omega
  have n13 : (op == 13) = false := by simp; omega
  have m13 : (op != 13) = true := by simp; omega
  have n14 : (op == 14) = false := by simp; omega
  have m14 : (op != 14) = true := by simp; omega
  have n15 : (op == 15) = false := by simp; omega
  have m15 : (op != 15) = true := by simp; omega
  have n16 : (op == 16) = false := by simp; omega
  have m16 : (op != 16) = true := by simp; omega
  have n17 : (op == 17) = false := by simp; omega
  have m17 : (op != 17) = true := by simp; omega
  have n18 : (op == 18) = false := by simp; omega
  have m18 : (op != 18) = true := by simp; omega
  have n19 : (op == 19) = false := by simp; omega
  have m19 : (op != 19) = true := by simp; omega
  have n20 : (op == 20) = false := by simp; omega
  have m20 : (op != 20) = true := by simp; omega
  have HO := Lib.hid ho
  clear ho
  go_enter Tryd.func30, Tryd.ntmps30
  rcases HO.out with ho | ho
  · have d1 : ¬ 1 ≤ op := by omega
    have d6 : ¬ 6 ≤ op := by omega
    have d14 : ¬ 14 ≤ op := by omega
    go_wp2
    go_ret
    exact ⟨ret_int (by first | (simp [usesV]; done) | (rw [uses_zero HO.out])), rfl⟩
  · have d9 : ¬ op ≤ 9 := by omega
    have d11 : ¬ op ≤ 11 := by omega
    have d18 : ¬ op ≤ 18 := by omega
    go_wp2
    go_ret
    exact ⟨ret_int (by first | (simp [usesV]; done) | (rw [uses_zero HO.out])), rfl⟩
theorem ruses_any (op : Int)  (w : World)  : Calls Tryd.prog 30 #[.int .i64 op] w fun e w' => e = .returned (.int .i64 (usesV op)) ∧ w' = w := by
  rcases op_cases op with rfl | rfl | rfl | rfl | rfl | rfl | rfl | rfl | rfl | rfl | rfl | rfl | rfl | rfl | rfl | rfl | rfl | rfl | rfl | rfl | h

  · exact ruses_1  w 
  · exact ruses_2  w 
  · exact ruses_3  w 
  · exact ruses_4  w 
  · exact ruses_5  w 
  · exact ruses_6  w 
  · exact ruses_7  w 
  · exact ruses_8  w 
  · exact ruses_9  w 
  · exact ruses_10  w 
  · exact ruses_11  w 
  · exact ruses_12  w 
  · exact ruses_13  w 
  · exact ruses_14  w 
  · exact ruses_15  w 
  · exact ruses_16  w 
  · exact ruses_17  w 
  · exact ruses_18  w 
  · exact ruses_19  w 
  · exact ruses_20  w 
  · exact ruses_odd op  w  h
end Go.Proofs.YtclndbiljhbbkaaDoor

/- Contracts: whether an instruction's operands are there. -/
import Derived.Test.YtnjfjebmkajpbaaI3
namespace Go.Proofs.Ytnjfjebmkajpbaa
open Go.ChangeShapes Go.WideShapes Go.ChangeAt Go.RowKit
set_option linter.unusedVariables false
set_option linter.unusedSimpArgs false

def opndV (op : Int) (j b : Nat) (nl : Nat) (temps fields : Int) (sym : Bool) : Bool :=
  if op = 6 then decide (j < nl) else if op = 9 then decide (j < nl) && sym else if op = 14 ∨ op = 15 then (decide (j < nl) && sym) && decide (b ≤ 4)
  else if op = 7 ∨ op = 10 then decide ((j : Int) < temps) else if op = 8 ∨ op = 11 then decide ((j : Int) < fields) else if op = 18 then decide (b ≤ 4) && decide ((j : Int) + (b : Int) ≤ temps) else true
theorem opnd_rest {op : Int} {j b nl : Nat} {temps fields : Int} {sym : Bool} (h : op ≠ 6 ∧ op ≠ 9 ∧ op ≠ 14 ∧ op ≠ 15 ∧ op ≠ 7 ∧ op ≠ 10 ∧ op ≠ 8 ∧ op ≠ 11 ∧ op ≠ 18) : opndV op j b nl temps fields sym = true := by
  unfold opndV; rw [if_neg h.1, if_neg h.2.1, if_neg (by omega), if_neg (by omega), if_neg (by omega), if_neg (by omega)]

set_option maxHeartbeats 8000000 in
set_option maxRecDepth 100000 in
theorem op1_60 (j b : Nat) (nl c n5 c5 : Nat) (p q : Option Addr) (sel : ByteArray) (args temps prim fields kd : Int) (w : World) (hj : j ≤ 255) (hb : b ≤ 255) (hc1 : nl ≤ c) (hc2 : c ≤ 9223372036854775807) (hl : ¬ j < nl) :
    Calls Try.prog 22 #[.agg #[.string sel, .int .i64 args, .int .i64 temps, .int .i64 prim, .slice p nl c, .slice q n5 c5], .agg #[.int .i64 6, .int .i64 (j : Int), .int .i64 (b : Int)], .int .i64 fields] w fun e w' => e = .returned (.bool false) ∧ Below w.heap.size w w' := by
  have l2 : decide (j < nl) = false := decide_eq_false hl
  have l3 : decide ((j : Int) < (nl : Int)) = false := decide_eq_false (by omega)
  have l4 : decide (nl ≤ j) = true := decide_eq_true (by omega)
  have l5 : decide ((nl : Int) ≤ (j : Int)) = true := decide_eq_true (by omega)
  have l6 : ¬ (j : Int) < (nl : Int) := by omega
  go_enter Try.func22, Try.ntmps22
  go_wp2
  go_ret
  exact ⟨ret_bool (by first | rfl | (simp [*]; done) | (simp; done) | (simp; omega)), by (repeat' (first | (with_reducible exact Below.refl _ _) | (with_reducible assumption) | (with_reducible refine below_drewN ?_ _) | (with_reducible refine Below.alloc ?_ ?_ _) | (with_reducible refine Below.drew ?_) | (with_reducible refine Below.setCell ?_ ?_ _) | go_size))⟩

set_option maxHeartbeats 8000000 in
set_option maxRecDepth 100000 in
theorem op1_90 (j b : Nat) (nl c n5 c5 : Nat) (p q : Option Addr) (sel : ByteArray) (args temps prim fields kd : Int) (w : World) (hj : j ≤ 255) (hb : b ≤ 255) (hc1 : nl ≤ c) (hc2 : c ≤ 9223372036854775807) (hl : ¬ j < nl) :
    Calls Try.prog 22 #[.agg #[.string sel, .int .i64 args, .int .i64 temps, .int .i64 prim, .slice p nl c, .slice q n5 c5], .agg #[.int .i64 9, .int .i64 (j : Int), .int .i64 (b : Int)], .int .i64 fields] w fun e w' => e = .returned (.bool false) ∧ Below w.heap.size w w' := by
  have l2 : decide (j < nl) = false := decide_eq_false hl
  have l3 : decide ((j : Int) < (nl : Int)) = false := decide_eq_false (by omega)
  have l4 : decide (nl ≤ j) = true := decide_eq_true (by omega)
  have l5 : decide ((nl : Int) ≤ (j : Int)) = true := decide_eq_true (by omega)
  have l6 : ¬ (j : Int) < (nl : Int) := by omega
  go_enter Try.func22, Try.ntmps22
  go_wp2
  go_ret
  exact ⟨ret_bool (by first | rfl | (simp [*]; done) | (simp; done) | (simp; omega)), by (repeat' (first | (with_reducible exact Below.refl _ _) | (with_reducible assumption) | (with_reducible refine below_drewN ?_ _) | (with_reducible refine Below.alloc ?_ ?_ _) | (with_reducible refine Below.drew ?_) | (with_reducible refine Below.setCell ?_ ?_ _) | go_size))⟩

set_option maxHeartbeats 8000000 in
set_option maxRecDepth 100000 in
theorem op1_140 (j b : Nat) (nl c n5 c5 : Nat) (p q : Option Addr) (sel : ByteArray) (args temps prim fields kd : Int) (w : World) (hj : j ≤ 255) (hb : b ≤ 255) (hc1 : nl ≤ c) (hc2 : c ≤ 9223372036854775807) (hl : ¬ j < nl) :
    Calls Try.prog 22 #[.agg #[.string sel, .int .i64 args, .int .i64 temps, .int .i64 prim, .slice p nl c, .slice q n5 c5], .agg #[.int .i64 14, .int .i64 (j : Int), .int .i64 (b : Int)], .int .i64 fields] w fun e w' => e = .returned (.bool false) ∧ Below w.heap.size w w' := by
  have l2 : decide (j < nl) = false := decide_eq_false hl
  have l3 : decide ((j : Int) < (nl : Int)) = false := decide_eq_false (by omega)
  have l4 : decide (nl ≤ j) = true := decide_eq_true (by omega)
  have l5 : decide ((nl : Int) ≤ (j : Int)) = true := decide_eq_true (by omega)
  have l6 : ¬ (j : Int) < (nl : Int) := by omega
  go_enter Try.func22, Try.ntmps22
  go_wp2
  go_ret
  exact ⟨ret_bool (by first | rfl | (simp [*]; done) | (simp; done) | (simp; omega)), by (repeat' (first | (with_reducible exact Below.refl _ _) | (with_reducible assumption) | (with_reducible refine below_drewN ?_ _) | (with_reducible refine Below.alloc ?_ ?_ _) | (with_reducible refine Below.drew ?_) | (with_reducible refine Below.setCell ?_ ?_ _) | go_size))⟩

set_option maxHeartbeats 8000000 in
set_option maxRecDepth 100000 in
theorem op1_150 (j b : Nat) (nl c n5 c5 : Nat) (p q : Option Addr) (sel : ByteArray) (args temps prim fields kd : Int) (w : World) (hj : j ≤ 255) (hb : b ≤ 255) (hc1 : nl ≤ c) (hc2 : c ≤ 9223372036854775807) (hl : ¬ j < nl) :
    Calls Try.prog 22 #[.agg #[.string sel, .int .i64 args, .int .i64 temps, .int .i64 prim, .slice p nl c, .slice q n5 c5], .agg #[.int .i64 15, .int .i64 (j : Int), .int .i64 (b : Int)], .int .i64 fields] w fun e w' => e = .returned (.bool false) ∧ Below w.heap.size w w' := by
  have l2 : decide (j < nl) = false := decide_eq_false hl
  have l3 : decide ((j : Int) < (nl : Int)) = false := decide_eq_false (by omega)
  have l4 : decide (nl ≤ j) = true := decide_eq_true (by omega)
  have l5 : decide ((nl : Int) ≤ (j : Int)) = true := decide_eq_true (by omega)
  have l6 : ¬ (j : Int) < (nl : Int) := by omega
  go_enter Try.func22, Try.ntmps22
  go_wp2
  go_ret
  exact ⟨ret_bool (by first | rfl | (simp [*]; done) | (simp; done) | (simp; omega)), by (repeat' (first | (with_reducible exact Below.refl _ _) | (with_reducible assumption) | (with_reducible refine below_drewN ?_ _) | (with_reducible refine Below.alloc ?_ ?_ _) | (with_reducible refine Below.drew ?_) | (with_reducible refine Below.setCell ?_ ?_ _) | go_size))⟩

set_option maxHeartbeats 8000000 in
set_option maxRecDepth 100000 in
theorem op1_70 (j b : Nat) (nl c n5 c5 : Nat) (p q : Option Addr) (sel : ByteArray) (args temps prim fields kd : Int) (w : World) (hj : j ≤ 255) (hb : b ≤ 255) (hc1 : nl ≤ c) (hc2 : c ≤ 9223372036854775807) (hl : ¬ j < nl) :
    Calls Try.prog 22 #[.agg #[.string sel, .int .i64 args, .int .i64 temps, .int .i64 prim, .slice p nl c, .slice q n5 c5], .agg #[.int .i64 7, .int .i64 (j : Int), .int .i64 (b : Int)], .int .i64 fields] w fun e w' => e = .returned (.bool (decide ((j : Int) < temps))) ∧ Below w.heap.size w w' := by
  have l2 : decide (j < nl) = false := decide_eq_false hl
  have l3 : decide ((j : Int) < (nl : Int)) = false := decide_eq_false (by omega)
  have l4 : decide (nl ≤ j) = true := decide_eq_true (by omega)
  have l5 : decide ((nl : Int) ≤ (j : Int)) = true := decide_eq_true (by omega)
  have l6 : ¬ (j : Int) < (nl : Int) := by omega
  go_enter Try.func22, Try.ntmps22
  go_wp2
  go_ret
  exact ⟨ret_bool (by first | rfl | (simp [*]; done) | (simp; done) | (simp; omega)), by (repeat' (first | (with_reducible exact Below.refl _ _) | (with_reducible assumption) | (with_reducible refine below_drewN ?_ _) | (with_reducible refine Below.alloc ?_ ?_ _) | (with_reducible refine Below.drew ?_) | (with_reducible refine Below.setCell ?_ ?_ _) | go_size))⟩

set_option maxHeartbeats 8000000 in
set_option maxRecDepth 100000 in
theorem op1_100 (j b : Nat) (nl c n5 c5 : Nat) (p q : Option Addr) (sel : ByteArray) (args temps prim fields kd : Int) (w : World) (hj : j ≤ 255) (hb : b ≤ 255) (hc1 : nl ≤ c) (hc2 : c ≤ 9223372036854775807) (hl : ¬ j < nl) :
    Calls Try.prog 22 #[.agg #[.string sel, .int .i64 args, .int .i64 temps, .int .i64 prim, .slice p nl c, .slice q n5 c5], .agg #[.int .i64 10, .int .i64 (j : Int), .int .i64 (b : Int)], .int .i64 fields] w fun e w' => e = .returned (.bool (decide ((j : Int) < temps))) ∧ Below w.heap.size w w' := by
  have l2 : decide (j < nl) = false := decide_eq_false hl
  have l3 : decide ((j : Int) < (nl : Int)) = false := decide_eq_false (by omega)
  have l4 : decide (nl ≤ j) = true := decide_eq_true (by omega)
  have l5 : decide ((nl : Int) ≤ (j : Int)) = true := decide_eq_true (by omega)
  have l6 : ¬ (j : Int) < (nl : Int) := by omega
  go_enter Try.func22, Try.ntmps22
  go_wp2
  go_ret
  exact ⟨ret_bool (by first | rfl | (simp [*]; done) | (simp; done) | (simp; omega)), by (repeat' (first | (with_reducible exact Below.refl _ _) | (with_reducible assumption) | (with_reducible refine below_drewN ?_ _) | (with_reducible refine Below.alloc ?_ ?_ _) | (with_reducible refine Below.drew ?_) | (with_reducible refine Below.setCell ?_ ?_ _) | go_size))⟩

set_option maxHeartbeats 8000000 in
set_option maxRecDepth 100000 in
theorem op1_80 (j b : Nat) (nl c n5 c5 : Nat) (p q : Option Addr) (sel : ByteArray) (args temps prim fields kd : Int) (w : World) (hj : j ≤ 255) (hb : b ≤ 255) (hc1 : nl ≤ c) (hc2 : c ≤ 9223372036854775807) (hl : ¬ j < nl) :
    Calls Try.prog 22 #[.agg #[.string sel, .int .i64 args, .int .i64 temps, .int .i64 prim, .slice p nl c, .slice q n5 c5], .agg #[.int .i64 8, .int .i64 (j : Int), .int .i64 (b : Int)], .int .i64 fields] w fun e w' => e = .returned (.bool (decide ((j : Int) < fields))) ∧ Below w.heap.size w w' := by
  have l2 : decide (j < nl) = false := decide_eq_false hl
  have l3 : decide ((j : Int) < (nl : Int)) = false := decide_eq_false (by omega)
  have l4 : decide (nl ≤ j) = true := decide_eq_true (by omega)
  have l5 : decide ((nl : Int) ≤ (j : Int)) = true := decide_eq_true (by omega)
  have l6 : ¬ (j : Int) < (nl : Int) := by omega
  go_enter Try.func22, Try.ntmps22
  go_wp2
  go_ret
  exact ⟨ret_bool (by first | rfl | (simp [*]; done) | (simp; done) | (simp; omega)), by (repeat' (first | (with_reducible exact Below.refl _ _) | (with_reducible assumption) | (with_reducible refine below_drewN ?_ _) | (with_reducible refine Below.alloc ?_ ?_ _) | (with_reducible refine Below.drew ?_) | (with_reducible refine Below.setCell ?_ ?_ _) | go_size))⟩

set_option maxHeartbeats 8000000 in
set_option maxRecDepth 100000 in
theorem op1_110 (j b : Nat) (nl c n5 c5 : Nat) (p q : Option Addr) (sel : ByteArray) (args temps prim fields kd : Int) (w : World) (hj : j ≤ 255) (hb : b ≤ 255) (hc1 : nl ≤ c) (hc2 : c ≤ 9223372036854775807) (hl : ¬ j < nl) :
    Calls Try.prog 22 #[.agg #[.string sel, .int .i64 args, .int .i64 temps, .int .i64 prim, .slice p nl c, .slice q n5 c5], .agg #[.int .i64 11, .int .i64 (j : Int), .int .i64 (b : Int)], .int .i64 fields] w fun e w' => e = .returned (.bool (decide ((j : Int) < fields))) ∧ Below w.heap.size w w' := by
  have l2 : decide (j < nl) = false := decide_eq_false hl
  have l3 : decide ((j : Int) < (nl : Int)) = false := decide_eq_false (by omega)
  have l4 : decide (nl ≤ j) = true := decide_eq_true (by omega)
  have l5 : decide ((nl : Int) ≤ (j : Int)) = true := decide_eq_true (by omega)
  have l6 : ¬ (j : Int) < (nl : Int) := by omega
  go_enter Try.func22, Try.ntmps22
  go_wp2
  go_ret
  exact ⟨ret_bool (by first | rfl | (simp [*]; done) | (simp; done) | (simp; omega)), by (repeat' (first | (with_reducible exact Below.refl _ _) | (with_reducible assumption) | (with_reducible refine below_drewN ?_ _) | (with_reducible refine Below.alloc ?_ ?_ _) | (with_reducible refine Below.drew ?_) | (with_reducible refine Below.setCell ?_ ?_ _) | go_size))⟩

set_option maxHeartbeats 8000000 in
set_option maxRecDepth 100000 in
theorem op1_180y (j b : Nat) (nl c n5 c5 : Nat) (p q : Option Addr) (sel : ByteArray) (args temps prim fields kd : Int) (w : World) (hj : j ≤ 255) (hb : b ≤ 255) (hc1 : nl ≤ c) (hc2 : c ≤ 9223372036854775807) (hl : ¬ j < nl) (h4 : b ≤ 4) :
    Calls Try.prog 22 #[.agg #[.string sel, .int .i64 args, .int .i64 temps, .int .i64 prim, .slice p nl c, .slice q n5 c5], .agg #[.int .i64 18, .int .i64 (j : Int), .int .i64 (b : Int)], .int .i64 fields] w fun e w' => e = .returned (.bool (decide ((j : Int) + (b : Int) ≤ temps))) ∧ Below w.heap.size w w' := by
  have l2 : decide (j < nl) = false := decide_eq_false hl
  have l3 : decide ((j : Int) < (nl : Int)) = false := decide_eq_false (by omega)
  have l4 : decide (nl ≤ j) = true := decide_eq_true (by omega)
  have l5 : decide ((nl : Int) ≤ (j : Int)) = true := decide_eq_true (by omega)
  have l6 : ¬ (j : Int) < (nl : Int) := by omega
  have b1 : decide (b ≤ 4) = true := decide_eq_true h4
  have b2 : decide ((b : Int) ≤ 4) = true := decide_eq_true (by omega)
  have b3 : decide (4 < (b : Int)) = false := decide_eq_false (by omega)
  go_enter Try.func22, Try.ntmps22
  go_wp2
  go_ret
  exact ⟨ret_bool (by first | rfl | (simp [*]; done) | (simp; done) | (simp; omega)), by (repeat' (first | (with_reducible exact Below.refl _ _) | (with_reducible assumption) | (with_reducible refine below_drewN ?_ _) | (with_reducible refine Below.alloc ?_ ?_ _) | (with_reducible refine Below.drew ?_) | (with_reducible refine Below.setCell ?_ ?_ _) | go_size))⟩

set_option maxHeartbeats 8000000 in
set_option maxRecDepth 100000 in
theorem op1_180n (j b : Nat) (nl c n5 c5 : Nat) (p q : Option Addr) (sel : ByteArray) (args temps prim fields kd : Int) (w : World) (hj : j ≤ 255) (hb : b ≤ 255) (hc1 : nl ≤ c) (hc2 : c ≤ 9223372036854775807) (hl : ¬ j < nl) (h4 : ¬ b ≤ 4) :
    Calls Try.prog 22 #[.agg #[.string sel, .int .i64 args, .int .i64 temps, .int .i64 prim, .slice p nl c, .slice q n5 c5], .agg #[.int .i64 18, .int .i64 (j : Int), .int .i64 (b : Int)], .int .i64 fields] w fun e w' => e = .returned (.bool false) ∧ Below w.heap.size w w' := by
  have l2 : decide (j < nl) = false := decide_eq_false hl
  have l3 : decide ((j : Int) < (nl : Int)) = false := decide_eq_false (by omega)
  have l4 : decide (nl ≤ j) = true := decide_eq_true (by omega)
  have l5 : decide ((nl : Int) ≤ (j : Int)) = true := decide_eq_true (by omega)
  have l6 : ¬ (j : Int) < (nl : Int) := by omega
  have b1 : decide (b ≤ 4) = false := decide_eq_false h4
  have b2 : decide ((b : Int) ≤ 4) = false := decide_eq_false (by omega)
  have b3 : decide (4 < (b : Int)) = true := decide_eq_true (by omega)
  go_enter Try.func22, Try.ntmps22
  go_wp2
  go_ret
  exact ⟨ret_bool (by first | rfl | (simp [*]; done) | (simp; done) | (simp; omega)), by (repeat' (first | (with_reducible exact Below.refl _ _) | (with_reducible assumption) | (with_reducible refine below_drewN ?_ _) | (with_reducible refine Below.alloc ?_ ?_ _) | (with_reducible refine Below.drew ?_) | (with_reducible refine Below.setCell ?_ ?_ _) | go_size))⟩

set_option maxHeartbeats 8000000 in
set_option maxRecDepth 100000 in
theorem op1_op0 (op : Int) (j b : Nat) (nl c n5 c5 : Nat) (p q : Option Addr) (sel : ByteArray) (args temps prim fields kd : Int) (w : World) (hj : j ≤ 255) (hb : b ≤ 255) (hc1 : nl ≤ c) (hc2 : c ≤ 9223372036854775807) (hl : ¬ j < nl) (ho : op ≠ 6 ∧ op ≠ 9 ∧ op ≠ 14 ∧ op ≠ 15 ∧ op ≠ 7 ∧ op ≠ 10 ∧ op ≠ 8 ∧ op ≠ 11 ∧ op ≠ 18) :
    Calls Try.prog 22 #[.agg #[.string sel, .int .i64 args, .int .i64 temps, .int .i64 prim, .slice p nl c, .slice q n5 c5], .agg #[.int .i64 op, .int .i64 (j : Int), .int .i64 (b : Int)], .int .i64 fields] w fun e w' => e = .returned (.bool true) ∧ Below w.heap.size w w' := by
  have l2 : decide (j < nl) = false := decide_eq_false hl
  have l3 : decide ((j : Int) < (nl : Int)) = false := decide_eq_false (by omega)
  have l4 : decide (nl ≤ j) = true := decide_eq_true (by omega)
  have l5 : decide ((nl : Int) ≤ (j : Int)) = true := decide_eq_true (by omega)
  have l6 : ¬ (j : Int) < (nl : Int) := by omega
  have o6 : (op == 6) = false := by simp; omega
  have o9 : (op == 9) = false := by simp; omega
  have o14 : (op == 14) = false := by simp; omega
  have o15 : (op == 15) = false := by simp; omega
  have o7 : (op == 7) = false := by simp; omega
  have o10 : (op == 10) = false := by simp; omega
  have o8 : (op == 8) = false := by simp; omega
  have o11 : (op == 11) = false := by simp; omega
  have o18 : (op == 18) = false := by simp; omega
  have q6 : (op != 6) = true := by simp; omega
  have q18 : (op != 18) = true := by simp; omega
  go_enter Try.func22, Try.ntmps22
  go_wp2
  go_ret
  exact ⟨ret_bool (by first | rfl | (simp [*]; done) | (simp; done) | (simp; omega)), by (repeat' (first | (with_reducible exact Below.refl _ _) | (with_reducible assumption) | (with_reducible refine below_drewN ?_ _) | (with_reducible refine Below.alloc ?_ ?_ _) | (with_reducible refine Below.drew ?_) | (with_reducible refine Below.setCell ?_ ?_ _) | go_size))⟩

set_option maxHeartbeats 8000000 in
set_option maxRecDepth 100000 in
theorem op1_6t (j b : Nat) (nl c n5 c5 : Nat) (p q : Option Addr) (sel : ByteArray) (args temps prim fields kd : Int) (w : World) (hj : j ≤ 255) (hb : b ≤ 255) (hc1 : nl ≤ c) (hc2 : c ≤ 9223372036854775807) (g off : Nat) (hp : p = some ⟨g, off, none⟩) (hl : j < nl) (hk : kd = 3) (hg : w.cell? ⟨g, off + j * 4, none⟩ = some (.int .i64 3)) :
    Calls Try.prog 22 #[.agg #[.string sel, .int .i64 args, .int .i64 temps, .int .i64 prim, .slice p nl c, .slice q n5 c5], .agg #[.int .i64 6, .int .i64 (j : Int), .int .i64 (b : Int)], .int .i64 fields] w fun e w' => e = .returned (.bool true) ∧ Below w.heap.size w w' := by
  subst hk
  subst hp
  have hgl : g < w.heap.size := cell_lt hg
  have l0 : (0 : Int) ≤ (j : Int) := by omega
  have l1 : (j : Int) < (nl : Int) := by omega
  have l2 : decide (j < nl) = true := decide_eq_true hl
  have l3 : decide ((j : Int) < (nl : Int)) = true := decide_eq_true l1
  have l4 : decide (nl ≤ j) = false := decide_eq_false (by omega)
  have l5 : decide ((nl : Int) ≤ (j : Int)) = false := decide_eq_false (by omega)
  go_enter Try.func22, Try.ntmps22
  go_wp2
  go_ret
  exact ⟨ret_bool (by first | rfl | (simp [*]; done) | (simp; done) | (simp; omega)), by (repeat' (first | (with_reducible exact Below.refl _ _) | (with_reducible assumption) | (with_reducible refine below_drewN ?_ _) | (with_reducible refine Below.alloc ?_ ?_ _) | (with_reducible refine Below.drew ?_) | (with_reducible refine Below.setCell ?_ ?_ _) | go_size))⟩

set_option maxHeartbeats 8000000 in
set_option maxRecDepth 100000 in
theorem op1_9t (j b : Nat) (nl c n5 c5 : Nat) (p q : Option Addr) (sel : ByteArray) (args temps prim fields kd : Int) (w : World) (hj : j ≤ 255) (hb : b ≤ 255) (hc1 : nl ≤ c) (hc2 : c ≤ 9223372036854775807) (g off : Nat) (hp : p = some ⟨g, off, none⟩) (hl : j < nl) (hk : kd = 3) (hg : w.cell? ⟨g, off + j * 4, none⟩ = some (.int .i64 3)) :
    Calls Try.prog 22 #[.agg #[.string sel, .int .i64 args, .int .i64 temps, .int .i64 prim, .slice p nl c, .slice q n5 c5], .agg #[.int .i64 9, .int .i64 (j : Int), .int .i64 (b : Int)], .int .i64 fields] w fun e w' => e = .returned (.bool true) ∧ Below w.heap.size w w' := by
  subst hk
  subst hp
  have hgl : g < w.heap.size := cell_lt hg
  have l0 : (0 : Int) ≤ (j : Int) := by omega
  have l1 : (j : Int) < (nl : Int) := by omega
  have l2 : decide (j < nl) = true := decide_eq_true hl
  have l3 : decide ((j : Int) < (nl : Int)) = true := decide_eq_true l1
  have l4 : decide (nl ≤ j) = false := decide_eq_false (by omega)
  have l5 : decide ((nl : Int) ≤ (j : Int)) = false := decide_eq_false (by omega)
  go_enter Try.func22, Try.ntmps22
  go_wp2
  go_ret
  exact ⟨ret_bool (by first | rfl | (simp [*]; done) | (simp; done) | (simp; omega)), by (repeat' (first | (with_reducible exact Below.refl _ _) | (with_reducible assumption) | (with_reducible refine below_drewN ?_ _) | (with_reducible refine Below.alloc ?_ ?_ _) | (with_reducible refine Below.drew ?_) | (with_reducible refine Below.setCell ?_ ?_ _) | go_size))⟩

set_option maxHeartbeats 8000000 in
set_option maxRecDepth 100000 in
theorem op1_14ty (j b : Nat) (nl c n5 c5 : Nat) (p q : Option Addr) (sel : ByteArray) (args temps prim fields kd : Int) (w : World) (hj : j ≤ 255) (hb : b ≤ 255) (hc1 : nl ≤ c) (hc2 : c ≤ 9223372036854775807) (g off : Nat) (hp : p = some ⟨g, off, none⟩) (hl : j < nl) (hk : kd = 3) (hg : w.cell? ⟨g, off + j * 4, none⟩ = some (.int .i64 3)) (h4 : b ≤ 4) :
    Calls Try.prog 22 #[.agg #[.string sel, .int .i64 args, .int .i64 temps, .int .i64 prim, .slice p nl c, .slice q n5 c5], .agg #[.int .i64 14, .int .i64 (j : Int), .int .i64 (b : Int)], .int .i64 fields] w fun e w' => e = .returned (.bool true) ∧ Below w.heap.size w w' := by
  subst hk
  subst hp
  have hgl : g < w.heap.size := cell_lt hg
  have l0 : (0 : Int) ≤ (j : Int) := by omega
  have l1 : (j : Int) < (nl : Int) := by omega
  have l2 : decide (j < nl) = true := decide_eq_true hl
  have l3 : decide ((j : Int) < (nl : Int)) = true := decide_eq_true l1
  have l4 : decide (nl ≤ j) = false := decide_eq_false (by omega)
  have l5 : decide ((nl : Int) ≤ (j : Int)) = false := decide_eq_false (by omega)
  have b1 : decide (b ≤ 4) = true := decide_eq_true h4
  have b2 : decide ((b : Int) ≤ 4) = true := decide_eq_true (by omega)
  have b3 : decide (4 < (b : Int)) = false := decide_eq_false (by omega)
  go_enter Try.func22, Try.ntmps22
  go_wp2
  go_ret
  exact ⟨ret_bool (by first | rfl | (simp [*]; done) | (simp; done) | (simp; omega)), by (repeat' (first | (with_reducible exact Below.refl _ _) | (with_reducible assumption) | (with_reducible refine below_drewN ?_ _) | (with_reducible refine Below.alloc ?_ ?_ _) | (with_reducible refine Below.drew ?_) | (with_reducible refine Below.setCell ?_ ?_ _) | go_size))⟩

set_option maxHeartbeats 8000000 in
set_option maxRecDepth 100000 in
theorem op1_14tn (j b : Nat) (nl c n5 c5 : Nat) (p q : Option Addr) (sel : ByteArray) (args temps prim fields kd : Int) (w : World) (hj : j ≤ 255) (hb : b ≤ 255) (hc1 : nl ≤ c) (hc2 : c ≤ 9223372036854775807) (g off : Nat) (hp : p = some ⟨g, off, none⟩) (hl : j < nl) (hk : kd = 3) (hg : w.cell? ⟨g, off + j * 4, none⟩ = some (.int .i64 3)) (h4 : ¬ b ≤ 4) :
    Calls Try.prog 22 #[.agg #[.string sel, .int .i64 args, .int .i64 temps, .int .i64 prim, .slice p nl c, .slice q n5 c5], .agg #[.int .i64 14, .int .i64 (j : Int), .int .i64 (b : Int)], .int .i64 fields] w fun e w' => e = .returned (.bool false) ∧ Below w.heap.size w w' := by
  subst hk
  subst hp
  have hgl : g < w.heap.size := cell_lt hg
  have l0 : (0 : Int) ≤ (j : Int) := by omega
  have l1 : (j : Int) < (nl : Int) := by omega
  have l2 : decide (j < nl) = true := decide_eq_true hl
  have l3 : decide ((j : Int) < (nl : Int)) = true := decide_eq_true l1
  have l4 : decide (nl ≤ j) = false := decide_eq_false (by omega)
  have l5 : decide ((nl : Int) ≤ (j : Int)) = false := decide_eq_false (by omega)
  have b1 : decide (b ≤ 4) = false := decide_eq_false h4
  have b2 : decide ((b : Int) ≤ 4) = false := decide_eq_false (by omega)
  have b3 : decide (4 < (b : Int)) = true := decide_eq_true (by omega)
  go_enter Try.func22, Try.ntmps22
  go_wp2
  go_ret
  exact ⟨ret_bool (by first | rfl | (simp [*]; done) | (simp; done) | (simp; omega)), by (repeat' (first | (with_reducible exact Below.refl _ _) | (with_reducible assumption) | (with_reducible refine below_drewN ?_ _) | (with_reducible refine Below.alloc ?_ ?_ _) | (with_reducible refine Below.drew ?_) | (with_reducible refine Below.setCell ?_ ?_ _) | go_size))⟩

set_option maxHeartbeats 8000000 in
set_option maxRecDepth 100000 in
theorem op1_15ty (j b : Nat) (nl c n5 c5 : Nat) (p q : Option Addr) (sel : ByteArray) (args temps prim fields kd : Int) (w : World) (hj : j ≤ 255) (hb : b ≤ 255) (hc1 : nl ≤ c) (hc2 : c ≤ 9223372036854775807) (g off : Nat) (hp : p = some ⟨g, off, none⟩) (hl : j < nl) (hk : kd = 3) (hg : w.cell? ⟨g, off + j * 4, none⟩ = some (.int .i64 3)) (h4 : b ≤ 4) :
    Calls Try.prog 22 #[.agg #[.string sel, .int .i64 args, .int .i64 temps, .int .i64 prim, .slice p nl c, .slice q n5 c5], .agg #[.int .i64 15, .int .i64 (j : Int), .int .i64 (b : Int)], .int .i64 fields] w fun e w' => e = .returned (.bool true) ∧ Below w.heap.size w w' := by
  subst hk
  subst hp
  have hgl : g < w.heap.size := cell_lt hg
  have l0 : (0 : Int) ≤ (j : Int) := by omega
  have l1 : (j : Int) < (nl : Int) := by omega
  have l2 : decide (j < nl) = true := decide_eq_true hl
  have l3 : decide ((j : Int) < (nl : Int)) = true := decide_eq_true l1
  have l4 : decide (nl ≤ j) = false := decide_eq_false (by omega)
  have l5 : decide ((nl : Int) ≤ (j : Int)) = false := decide_eq_false (by omega)
  have b1 : decide (b ≤ 4) = true := decide_eq_true h4
  have b2 : decide ((b : Int) ≤ 4) = true := decide_eq_true (by omega)
  have b3 : decide (4 < (b : Int)) = false := decide_eq_false (by omega)
  go_enter Try.func22, Try.ntmps22
  go_wp2
  go_ret
  exact ⟨ret_bool (by first | rfl | (simp [*]; done) | (simp; done) | (simp; omega)), by (repeat' (first | (with_reducible exact Below.refl _ _) | (with_reducible assumption) | (with_reducible refine below_drewN ?_ _) | (with_reducible refine Below.alloc ?_ ?_ _) | (with_reducible refine Below.drew ?_) | (with_reducible refine Below.setCell ?_ ?_ _) | go_size))⟩

set_option maxHeartbeats 8000000 in
set_option maxRecDepth 100000 in
theorem op1_15tn (j b : Nat) (nl c n5 c5 : Nat) (p q : Option Addr) (sel : ByteArray) (args temps prim fields kd : Int) (w : World) (hj : j ≤ 255) (hb : b ≤ 255) (hc1 : nl ≤ c) (hc2 : c ≤ 9223372036854775807) (g off : Nat) (hp : p = some ⟨g, off, none⟩) (hl : j < nl) (hk : kd = 3) (hg : w.cell? ⟨g, off + j * 4, none⟩ = some (.int .i64 3)) (h4 : ¬ b ≤ 4) :
    Calls Try.prog 22 #[.agg #[.string sel, .int .i64 args, .int .i64 temps, .int .i64 prim, .slice p nl c, .slice q n5 c5], .agg #[.int .i64 15, .int .i64 (j : Int), .int .i64 (b : Int)], .int .i64 fields] w fun e w' => e = .returned (.bool false) ∧ Below w.heap.size w w' := by
  subst hk
  subst hp
  have hgl : g < w.heap.size := cell_lt hg
  have l0 : (0 : Int) ≤ (j : Int) := by omega
  have l1 : (j : Int) < (nl : Int) := by omega
  have l2 : decide (j < nl) = true := decide_eq_true hl
  have l3 : decide ((j : Int) < (nl : Int)) = true := decide_eq_true l1
  have l4 : decide (nl ≤ j) = false := decide_eq_false (by omega)
  have l5 : decide ((nl : Int) ≤ (j : Int)) = false := decide_eq_false (by omega)
  have b1 : decide (b ≤ 4) = false := decide_eq_false h4
  have b2 : decide ((b : Int) ≤ 4) = false := decide_eq_false (by omega)
  have b3 : decide (4 < (b : Int)) = true := decide_eq_true (by omega)
  go_enter Try.func22, Try.ntmps22
  go_wp2
  go_ret
  exact ⟨ret_bool (by first | rfl | (simp [*]; done) | (simp; done) | (simp; omega)), by (repeat' (first | (with_reducible exact Below.refl _ _) | (with_reducible assumption) | (with_reducible refine below_drewN ?_ _) | (with_reducible refine Below.alloc ?_ ?_ _) | (with_reducible refine Below.drew ?_) | (with_reducible refine Below.setCell ?_ ?_ _) | go_size))⟩

set_option maxHeartbeats 8000000 in
set_option maxRecDepth 100000 in
theorem op1_7t (j b : Nat) (nl c n5 c5 : Nat) (p q : Option Addr) (sel : ByteArray) (args temps prim fields kd : Int) (w : World) (hj : j ≤ 255) (hb : b ≤ 255) (hc1 : nl ≤ c) (hc2 : c ≤ 9223372036854775807) (g off : Nat) (hp : p = some ⟨g, off, none⟩) (hl : j < nl) (hk : kd = 3) (hg : w.cell? ⟨g, off + j * 4, none⟩ = some (.int .i64 3)) :
    Calls Try.prog 22 #[.agg #[.string sel, .int .i64 args, .int .i64 temps, .int .i64 prim, .slice p nl c, .slice q n5 c5], .agg #[.int .i64 7, .int .i64 (j : Int), .int .i64 (b : Int)], .int .i64 fields] w fun e w' => e = .returned (.bool (decide ((j : Int) < temps))) ∧ Below w.heap.size w w' := by
  subst hk
  subst hp
  have hgl : g < w.heap.size := cell_lt hg
  have l0 : (0 : Int) ≤ (j : Int) := by omega
  have l1 : (j : Int) < (nl : Int) := by omega
  have l2 : decide (j < nl) = true := decide_eq_true hl
  have l3 : decide ((j : Int) < (nl : Int)) = true := decide_eq_true l1
  have l4 : decide (nl ≤ j) = false := decide_eq_false (by omega)
  have l5 : decide ((nl : Int) ≤ (j : Int)) = false := decide_eq_false (by omega)
  go_enter Try.func22, Try.ntmps22
  go_wp2
  go_ret
  exact ⟨ret_bool (by first | rfl | (simp [*]; done) | (simp; done) | (simp; omega)), by (repeat' (first | (with_reducible exact Below.refl _ _) | (with_reducible assumption) | (with_reducible refine below_drewN ?_ _) | (with_reducible refine Below.alloc ?_ ?_ _) | (with_reducible refine Below.drew ?_) | (with_reducible refine Below.setCell ?_ ?_ _) | go_size))⟩

set_option maxHeartbeats 8000000 in
set_option maxRecDepth 100000 in
theorem op1_10t (j b : Nat) (nl c n5 c5 : Nat) (p q : Option Addr) (sel : ByteArray) (args temps prim fields kd : Int) (w : World) (hj : j ≤ 255) (hb : b ≤ 255) (hc1 : nl ≤ c) (hc2 : c ≤ 9223372036854775807) (g off : Nat) (hp : p = some ⟨g, off, none⟩) (hl : j < nl) (hk : kd = 3) (hg : w.cell? ⟨g, off + j * 4, none⟩ = some (.int .i64 3)) :
    Calls Try.prog 22 #[.agg #[.string sel, .int .i64 args, .int .i64 temps, .int .i64 prim, .slice p nl c, .slice q n5 c5], .agg #[.int .i64 10, .int .i64 (j : Int), .int .i64 (b : Int)], .int .i64 fields] w fun e w' => e = .returned (.bool (decide ((j : Int) < temps))) ∧ Below w.heap.size w w' := by
  subst hk
  subst hp
  have hgl : g < w.heap.size := cell_lt hg
  have l0 : (0 : Int) ≤ (j : Int) := by omega
  have l1 : (j : Int) < (nl : Int) := by omega
  have l2 : decide (j < nl) = true := decide_eq_true hl
  have l3 : decide ((j : Int) < (nl : Int)) = true := decide_eq_true l1
  have l4 : decide (nl ≤ j) = false := decide_eq_false (by omega)
  have l5 : decide ((nl : Int) ≤ (j : Int)) = false := decide_eq_false (by omega)
  go_enter Try.func22, Try.ntmps22
  go_wp2
  go_ret
  exact ⟨ret_bool (by first | rfl | (simp [*]; done) | (simp; done) | (simp; omega)), by (repeat' (first | (with_reducible exact Below.refl _ _) | (with_reducible assumption) | (with_reducible refine below_drewN ?_ _) | (with_reducible refine Below.alloc ?_ ?_ _) | (with_reducible refine Below.drew ?_) | (with_reducible refine Below.setCell ?_ ?_ _) | go_size))⟩

set_option maxHeartbeats 8000000 in
set_option maxRecDepth 100000 in
theorem op1_8t (j b : Nat) (nl c n5 c5 : Nat) (p q : Option Addr) (sel : ByteArray) (args temps prim fields kd : Int) (w : World) (hj : j ≤ 255) (hb : b ≤ 255) (hc1 : nl ≤ c) (hc2 : c ≤ 9223372036854775807) (g off : Nat) (hp : p = some ⟨g, off, none⟩) (hl : j < nl) (hk : kd = 3) (hg : w.cell? ⟨g, off + j * 4, none⟩ = some (.int .i64 3)) :
    Calls Try.prog 22 #[.agg #[.string sel, .int .i64 args, .int .i64 temps, .int .i64 prim, .slice p nl c, .slice q n5 c5], .agg #[.int .i64 8, .int .i64 (j : Int), .int .i64 (b : Int)], .int .i64 fields] w fun e w' => e = .returned (.bool (decide ((j : Int) < fields))) ∧ Below w.heap.size w w' := by
  subst hk
  subst hp
  have hgl : g < w.heap.size := cell_lt hg
  have l0 : (0 : Int) ≤ (j : Int) := by omega
  have l1 : (j : Int) < (nl : Int) := by omega
  have l2 : decide (j < nl) = true := decide_eq_true hl
  have l3 : decide ((j : Int) < (nl : Int)) = true := decide_eq_true l1
  have l4 : decide (nl ≤ j) = false := decide_eq_false (by omega)
  have l5 : decide ((nl : Int) ≤ (j : Int)) = false := decide_eq_false (by omega)
  go_enter Try.func22, Try.ntmps22
  go_wp2
  go_ret
  exact ⟨ret_bool (by first | rfl | (simp [*]; done) | (simp; done) | (simp; omega)), by (repeat' (first | (with_reducible exact Below.refl _ _) | (with_reducible assumption) | (with_reducible refine below_drewN ?_ _) | (with_reducible refine Below.alloc ?_ ?_ _) | (with_reducible refine Below.drew ?_) | (with_reducible refine Below.setCell ?_ ?_ _) | go_size))⟩

set_option maxHeartbeats 8000000 in
set_option maxRecDepth 100000 in
theorem op1_11t (j b : Nat) (nl c n5 c5 : Nat) (p q : Option Addr) (sel : ByteArray) (args temps prim fields kd : Int) (w : World) (hj : j ≤ 255) (hb : b ≤ 255) (hc1 : nl ≤ c) (hc2 : c ≤ 9223372036854775807) (g off : Nat) (hp : p = some ⟨g, off, none⟩) (hl : j < nl) (hk : kd = 3) (hg : w.cell? ⟨g, off + j * 4, none⟩ = some (.int .i64 3)) :
    Calls Try.prog 22 #[.agg #[.string sel, .int .i64 args, .int .i64 temps, .int .i64 prim, .slice p nl c, .slice q n5 c5], .agg #[.int .i64 11, .int .i64 (j : Int), .int .i64 (b : Int)], .int .i64 fields] w fun e w' => e = .returned (.bool (decide ((j : Int) < fields))) ∧ Below w.heap.size w w' := by
  subst hk
  subst hp
  have hgl : g < w.heap.size := cell_lt hg
  have l0 : (0 : Int) ≤ (j : Int) := by omega
  have l1 : (j : Int) < (nl : Int) := by omega
  have l2 : decide (j < nl) = true := decide_eq_true hl
  have l3 : decide ((j : Int) < (nl : Int)) = true := decide_eq_true l1
  have l4 : decide (nl ≤ j) = false := decide_eq_false (by omega)
  have l5 : decide ((nl : Int) ≤ (j : Int)) = false := decide_eq_false (by omega)
  go_enter Try.func22, Try.ntmps22
  go_wp2
  go_ret
  exact ⟨ret_bool (by first | rfl | (simp [*]; done) | (simp; done) | (simp; omega)), by (repeat' (first | (with_reducible exact Below.refl _ _) | (with_reducible assumption) | (with_reducible refine below_drewN ?_ _) | (with_reducible refine Below.alloc ?_ ?_ _) | (with_reducible refine Below.drew ?_) | (with_reducible refine Below.setCell ?_ ?_ _) | go_size))⟩

set_option maxHeartbeats 8000000 in
set_option maxRecDepth 100000 in
theorem op1_18ty (j b : Nat) (nl c n5 c5 : Nat) (p q : Option Addr) (sel : ByteArray) (args temps prim fields kd : Int) (w : World) (hj : j ≤ 255) (hb : b ≤ 255) (hc1 : nl ≤ c) (hc2 : c ≤ 9223372036854775807) (g off : Nat) (hp : p = some ⟨g, off, none⟩) (hl : j < nl) (hk : kd = 3) (hg : w.cell? ⟨g, off + j * 4, none⟩ = some (.int .i64 3)) (h4 : b ≤ 4) :
    Calls Try.prog 22 #[.agg #[.string sel, .int .i64 args, .int .i64 temps, .int .i64 prim, .slice p nl c, .slice q n5 c5], .agg #[.int .i64 18, .int .i64 (j : Int), .int .i64 (b : Int)], .int .i64 fields] w fun e w' => e = .returned (.bool (decide ((j : Int) + (b : Int) ≤ temps))) ∧ Below w.heap.size w w' := by
  subst hk
  subst hp
  have hgl : g < w.heap.size := cell_lt hg
  have l0 : (0 : Int) ≤ (j : Int) := by omega
  have l1 : (j : Int) < (nl : Int) := by omega
  have l2 : decide (j < nl) = true := decide_eq_true hl
  have l3 : decide ((j : Int) < (nl : Int)) = true := decide_eq_true l1
  have l4 : decide (nl ≤ j) = false := decide_eq_false (by omega)
  have l5 : decide ((nl : Int) ≤ (j : Int)) = false := decide_eq_false (by omega)
  have b1 : decide (b ≤ 4) = true := decide_eq_true h4
  have b2 : decide ((b : Int) ≤ 4) = true := decide_eq_true (by omega)
  have b3 : decide (4 < (b : Int)) = false := decide_eq_false (by omega)
  go_enter Try.func22, Try.ntmps22
  go_wp2
  go_ret
  exact ⟨ret_bool (by first | rfl | (simp [*]; done) | (simp; done) | (simp; omega)), by (repeat' (first | (with_reducible exact Below.refl _ _) | (with_reducible assumption) | (with_reducible refine below_drewN ?_ _) | (with_reducible refine Below.alloc ?_ ?_ _) | (with_reducible refine Below.drew ?_) | (with_reducible refine Below.setCell ?_ ?_ _) | go_size))⟩

set_option maxHeartbeats 8000000 in
set_option maxRecDepth 100000 in
theorem op1_18tn (j b : Nat) (nl c n5 c5 : Nat) (p q : Option Addr) (sel : ByteArray) (args temps prim fields kd : Int) (w : World) (hj : j ≤ 255) (hb : b ≤ 255) (hc1 : nl ≤ c) (hc2 : c ≤ 9223372036854775807) (g off : Nat) (hp : p = some ⟨g, off, none⟩) (hl : j < nl) (hk : kd = 3) (hg : w.cell? ⟨g, off + j * 4, none⟩ = some (.int .i64 3)) (h4 : ¬ b ≤ 4) :
    Calls Try.prog 22 #[.agg #[.string sel, .int .i64 args, .int .i64 temps, .int .i64 prim, .slice p nl c, .slice q n5 c5], .agg #[.int .i64 18, .int .i64 (j : Int), .int .i64 (b : Int)], .int .i64 fields] w fun e w' => e = .returned (.bool false) ∧ Below w.heap.size w w' := by
  subst hk
  subst hp
  have hgl : g < w.heap.size := cell_lt hg
  have l0 : (0 : Int) ≤ (j : Int) := by omega
  have l1 : (j : Int) < (nl : Int) := by omega
  have l2 : decide (j < nl) = true := decide_eq_true hl
  have l3 : decide ((j : Int) < (nl : Int)) = true := decide_eq_true l1
  have l4 : decide (nl ≤ j) = false := decide_eq_false (by omega)
  have l5 : decide ((nl : Int) ≤ (j : Int)) = false := decide_eq_false (by omega)
  have b1 : decide (b ≤ 4) = false := decide_eq_false h4
  have b2 : decide ((b : Int) ≤ 4) = false := decide_eq_false (by omega)
  have b3 : decide (4 < (b : Int)) = true := decide_eq_true (by omega)
  go_enter Try.func22, Try.ntmps22
  go_wp2
  go_ret
  exact ⟨ret_bool (by first | rfl | (simp [*]; done) | (simp; done) | (simp; omega)), by (repeat' (first | (with_reducible exact Below.refl _ _) | (with_reducible assumption) | (with_reducible refine below_drewN ?_ _) | (with_reducible refine Below.alloc ?_ ?_ _) | (with_reducible refine Below.drew ?_) | (with_reducible refine Below.setCell ?_ ?_ _) | go_size))⟩

set_option maxHeartbeats 8000000 in
set_option maxRecDepth 100000 in
theorem op1_opt (op : Int) (j b : Nat) (nl c n5 c5 : Nat) (p q : Option Addr) (sel : ByteArray) (args temps prim fields kd : Int) (w : World) (hj : j ≤ 255) (hb : b ≤ 255) (hc1 : nl ≤ c) (hc2 : c ≤ 9223372036854775807) (g off : Nat) (hp : p = some ⟨g, off, none⟩) (hl : j < nl) (hk : kd = 3) (hg : w.cell? ⟨g, off + j * 4, none⟩ = some (.int .i64 3)) (ho : op ≠ 6 ∧ op ≠ 9 ∧ op ≠ 14 ∧ op ≠ 15 ∧ op ≠ 7 ∧ op ≠ 10 ∧ op ≠ 8 ∧ op ≠ 11 ∧ op ≠ 18) :
    Calls Try.prog 22 #[.agg #[.string sel, .int .i64 args, .int .i64 temps, .int .i64 prim, .slice p nl c, .slice q n5 c5], .agg #[.int .i64 op, .int .i64 (j : Int), .int .i64 (b : Int)], .int .i64 fields] w fun e w' => e = .returned (.bool true) ∧ Below w.heap.size w w' := by
  subst hk
  subst hp
  have hgl : g < w.heap.size := cell_lt hg
  have l0 : (0 : Int) ≤ (j : Int) := by omega
  have l1 : (j : Int) < (nl : Int) := by omega
  have l2 : decide (j < nl) = true := decide_eq_true hl
  have l3 : decide ((j : Int) < (nl : Int)) = true := decide_eq_true l1
  have l4 : decide (nl ≤ j) = false := decide_eq_false (by omega)
  have l5 : decide ((nl : Int) ≤ (j : Int)) = false := decide_eq_false (by omega)
  have o6 : (op == 6) = false := by simp; omega
  have o9 : (op == 9) = false := by simp; omega
  have o14 : (op == 14) = false := by simp; omega
  have o15 : (op == 15) = false := by simp; omega
  have o7 : (op == 7) = false := by simp; omega
  have o10 : (op == 10) = false := by simp; omega
  have o8 : (op == 8) = false := by simp; omega
  have o11 : (op == 11) = false := by simp; omega
  have o18 : (op == 18) = false := by simp; omega
  have q6 : (op != 6) = true := by simp; omega
  have q18 : (op != 18) = true := by simp; omega
  go_enter Try.func22, Try.ntmps22
  go_wp2
  go_ret
  exact ⟨ret_bool (by first | rfl | (simp [*]; done) | (simp; done) | (simp; omega)), by (repeat' (first | (with_reducible exact Below.refl _ _) | (with_reducible assumption) | (with_reducible refine below_drewN ?_ _) | (with_reducible refine Below.alloc ?_ ?_ _) | (with_reducible refine Below.drew ?_) | (with_reducible refine Below.setCell ?_ ?_ _) | go_size))⟩

set_option maxHeartbeats 8000000 in
set_option maxRecDepth 100000 in
theorem op1_6f (j b : Nat) (nl c n5 c5 : Nat) (p q : Option Addr) (sel : ByteArray) (args temps prim fields kd : Int) (w : World) (hj : j ≤ 255) (hb : b ≤ 255) (hc1 : nl ≤ c) (hc2 : c ≤ 9223372036854775807) (g off : Nat) (hp : p = some ⟨g, off, none⟩) (hl : j < nl) (hg : w.cell? ⟨g, off + j * 4, none⟩ = some (.int .i64 kd)) (hk : kd ≠ 3) :
    Calls Try.prog 22 #[.agg #[.string sel, .int .i64 args, .int .i64 temps, .int .i64 prim, .slice p nl c, .slice q n5 c5], .agg #[.int .i64 6, .int .i64 (j : Int), .int .i64 (b : Int)], .int .i64 fields] w fun e w' => e = .returned (.bool true) ∧ Below w.heap.size w w' := by
  subst hp
  have hgl : g < w.heap.size := cell_lt hg
  have l0 : (0 : Int) ≤ (j : Int) := by omega
  have l1 : (j : Int) < (nl : Int) := by omega
  have l2 : decide (j < nl) = true := decide_eq_true hl
  have l3 : decide ((j : Int) < (nl : Int)) = true := decide_eq_true l1
  have l4 : decide (nl ≤ j) = false := decide_eq_false (by omega)
  have l5 : decide ((nl : Int) ≤ (j : Int)) = false := decide_eq_false (by omega)
  have k1 : (kd == 3) = false := by simp; omega
  have k2 : (kd != 3) = true := by simp; omega
  go_enter Try.func22, Try.ntmps22
  go_wp2
  go_ret
  exact ⟨ret_bool (by first | rfl | (simp [*]; done) | (simp; done) | (simp; omega)), by (repeat' (first | (with_reducible exact Below.refl _ _) | (with_reducible assumption) | (with_reducible refine below_drewN ?_ _) | (with_reducible refine Below.alloc ?_ ?_ _) | (with_reducible refine Below.drew ?_) | (with_reducible refine Below.setCell ?_ ?_ _) | go_size))⟩

set_option maxHeartbeats 8000000 in
set_option maxRecDepth 100000 in
theorem op1_9f (j b : Nat) (nl c n5 c5 : Nat) (p q : Option Addr) (sel : ByteArray) (args temps prim fields kd : Int) (w : World) (hj : j ≤ 255) (hb : b ≤ 255) (hc1 : nl ≤ c) (hc2 : c ≤ 9223372036854775807) (g off : Nat) (hp : p = some ⟨g, off, none⟩) (hl : j < nl) (hg : w.cell? ⟨g, off + j * 4, none⟩ = some (.int .i64 kd)) (hk : kd ≠ 3) :
    Calls Try.prog 22 #[.agg #[.string sel, .int .i64 args, .int .i64 temps, .int .i64 prim, .slice p nl c, .slice q n5 c5], .agg #[.int .i64 9, .int .i64 (j : Int), .int .i64 (b : Int)], .int .i64 fields] w fun e w' => e = .returned (.bool false) ∧ Below w.heap.size w w' := by
  subst hp
  have hgl : g < w.heap.size := cell_lt hg
  have l0 : (0 : Int) ≤ (j : Int) := by omega
  have l1 : (j : Int) < (nl : Int) := by omega
  have l2 : decide (j < nl) = true := decide_eq_true hl
  have l3 : decide ((j : Int) < (nl : Int)) = true := decide_eq_true l1
  have l4 : decide (nl ≤ j) = false := decide_eq_false (by omega)
  have l5 : decide ((nl : Int) ≤ (j : Int)) = false := decide_eq_false (by omega)
  have k1 : (kd == 3) = false := by simp; omega
  have k2 : (kd != 3) = true := by simp; omega
  go_enter Try.func22, Try.ntmps22
  go_wp2
  go_ret
  exact ⟨ret_bool (by first | rfl | (simp [*]; done) | (simp; done) | (simp; omega)), by (repeat' (first | (with_reducible exact Below.refl _ _) | (with_reducible assumption) | (with_reducible refine below_drewN ?_ _) | (with_reducible refine Below.alloc ?_ ?_ _) | (with_reducible refine Below.drew ?_) | (with_reducible refine Below.setCell ?_ ?_ _) | go_size))⟩

set_option maxHeartbeats 8000000 in
set_option maxRecDepth 100000 in
theorem op1_14f (j b : Nat) (nl c n5 c5 : Nat) (p q : Option Addr) (sel : ByteArray) (args temps prim fields kd : Int) (w : World) (hj : j ≤ 255) (hb : b ≤ 255) (hc1 : nl ≤ c) (hc2 : c ≤ 9223372036854775807) (g off : Nat) (hp : p = some ⟨g, off, none⟩) (hl : j < nl) (hg : w.cell? ⟨g, off + j * 4, none⟩ = some (.int .i64 kd)) (hk : kd ≠ 3) :
    Calls Try.prog 22 #[.agg #[.string sel, .int .i64 args, .int .i64 temps, .int .i64 prim, .slice p nl c, .slice q n5 c5], .agg #[.int .i64 14, .int .i64 (j : Int), .int .i64 (b : Int)], .int .i64 fields] w fun e w' => e = .returned (.bool false) ∧ Below w.heap.size w w' := by
  subst hp
  have hgl : g < w.heap.size := cell_lt hg
  have l0 : (0 : Int) ≤ (j : Int) := by omega
  have l1 : (j : Int) < (nl : Int) := by omega
  have l2 : decide (j < nl) = true := decide_eq_true hl
  have l3 : decide ((j : Int) < (nl : Int)) = true := decide_eq_true l1
  have l4 : decide (nl ≤ j) = false := decide_eq_false (by omega)
  have l5 : decide ((nl : Int) ≤ (j : Int)) = false := decide_eq_false (by omega)
  have k1 : (kd == 3) = false := by simp; omega
  have k2 : (kd != 3) = true := by simp; omega
  go_enter Try.func22, Try.ntmps22
  go_wp2
  go_ret
  exact ⟨ret_bool (by first | rfl | (simp [*]; done) | (simp; done) | (simp; omega)), by (repeat' (first | (with_reducible exact Below.refl _ _) | (with_reducible assumption) | (with_reducible refine below_drewN ?_ _) | (with_reducible refine Below.alloc ?_ ?_ _) | (with_reducible refine Below.drew ?_) | (with_reducible refine Below.setCell ?_ ?_ _) | go_size))⟩

set_option maxHeartbeats 8000000 in
set_option maxRecDepth 100000 in
theorem op1_15f (j b : Nat) (nl c n5 c5 : Nat) (p q : Option Addr) (sel : ByteArray) (args temps prim fields kd : Int) (w : World) (hj : j ≤ 255) (hb : b ≤ 255) (hc1 : nl ≤ c) (hc2 : c ≤ 9223372036854775807) (g off : Nat) (hp : p = some ⟨g, off, none⟩) (hl : j < nl) (hg : w.cell? ⟨g, off + j * 4, none⟩ = some (.int .i64 kd)) (hk : kd ≠ 3) :
    Calls Try.prog 22 #[.agg #[.string sel, .int .i64 args, .int .i64 temps, .int .i64 prim, .slice p nl c, .slice q n5 c5], .agg #[.int .i64 15, .int .i64 (j : Int), .int .i64 (b : Int)], .int .i64 fields] w fun e w' => e = .returned (.bool false) ∧ Below w.heap.size w w' := by
  subst hp
  have hgl : g < w.heap.size := cell_lt hg
  have l0 : (0 : Int) ≤ (j : Int) := by omega
  have l1 : (j : Int) < (nl : Int) := by omega
  have l2 : decide (j < nl) = true := decide_eq_true hl
  have l3 : decide ((j : Int) < (nl : Int)) = true := decide_eq_true l1
  have l4 : decide (nl ≤ j) = false := decide_eq_false (by omega)
  have l5 : decide ((nl : Int) ≤ (j : Int)) = false := decide_eq_false (by omega)
  have k1 : (kd == 3) = false := by simp; omega
  have k2 : (kd != 3) = true := by simp; omega
  go_enter Try.func22, Try.ntmps22
  go_wp2
  go_ret
  exact ⟨ret_bool (by first | rfl | (simp [*]; done) | (simp; done) | (simp; omega)), by (repeat' (first | (with_reducible exact Below.refl _ _) | (with_reducible assumption) | (with_reducible refine below_drewN ?_ _) | (with_reducible refine Below.alloc ?_ ?_ _) | (with_reducible refine Below.drew ?_) | (with_reducible refine Below.setCell ?_ ?_ _) | go_size))⟩

set_option maxHeartbeats 8000000 in
set_option maxRecDepth 100000 in
theorem op1_7f (j b : Nat) (nl c n5 c5 : Nat) (p q : Option Addr) (sel : ByteArray) (args temps prim fields kd : Int) (w : World) (hj : j ≤ 255) (hb : b ≤ 255) (hc1 : nl ≤ c) (hc2 : c ≤ 9223372036854775807) (g off : Nat) (hp : p = some ⟨g, off, none⟩) (hl : j < nl) (hg : w.cell? ⟨g, off + j * 4, none⟩ = some (.int .i64 kd)) (hk : kd ≠ 3) :
    Calls Try.prog 22 #[.agg #[.string sel, .int .i64 args, .int .i64 temps, .int .i64 prim, .slice p nl c, .slice q n5 c5], .agg #[.int .i64 7, .int .i64 (j : Int), .int .i64 (b : Int)], .int .i64 fields] w fun e w' => e = .returned (.bool (decide ((j : Int) < temps))) ∧ Below w.heap.size w w' := by
  subst hp
  have hgl : g < w.heap.size := cell_lt hg
  have l0 : (0 : Int) ≤ (j : Int) := by omega
  have l1 : (j : Int) < (nl : Int) := by omega
  have l2 : decide (j < nl) = true := decide_eq_true hl
  have l3 : decide ((j : Int) < (nl : Int)) = true := decide_eq_true l1
  have l4 : decide (nl ≤ j) = false := decide_eq_false (by omega)
  have l5 : decide ((nl : Int) ≤ (j : Int)) = false := decide_eq_false (by omega)
  have k1 : (kd == 3) = false := by simp; omega
  have k2 : (kd != 3) = true := by simp; omega
  go_enter Try.func22, Try.ntmps22
  go_wp2
  go_ret
  exact ⟨ret_bool (by first | rfl | (simp [*]; done) | (simp; done) | (simp; omega)), by (repeat' (first | (with_reducible exact Below.refl _ _) | (with_reducible assumption) | (with_reducible refine below_drewN ?_ _) | (with_reducible refine Below.alloc ?_ ?_ _) | (with_reducible refine Below.drew ?_) | (with_reducible refine Below.setCell ?_ ?_ _) | go_size))⟩

set_option maxHeartbeats 8000000 in
set_option maxRecDepth 100000 in
theorem op1_10f (j b : Nat) (nl c n5 c5 : Nat) (p q : Option Addr) (sel : ByteArray) (args temps prim fields kd : Int) (w : World) (hj : j ≤ 255) (hb : b ≤ 255) (hc1 : nl ≤ c) (hc2 : c ≤ 9223372036854775807) (g off : Nat) (hp : p = some ⟨g, off, none⟩) (hl : j < nl) (hg : w.cell? ⟨g, off + j * 4, none⟩ = some (.int .i64 kd)) (hk : kd ≠ 3) :
    Calls Try.prog 22 #[.agg #[.string sel, .int .i64 args, .int .i64 temps, .int .i64 prim, .slice p nl c, .slice q n5 c5], .agg #[.int .i64 10, .int .i64 (j : Int), .int .i64 (b : Int)], .int .i64 fields] w fun e w' => e = .returned (.bool (decide ((j : Int) < temps))) ∧ Below w.heap.size w w' := by
  subst hp
  have hgl : g < w.heap.size := cell_lt hg
  have l0 : (0 : Int) ≤ (j : Int) := by omega
  have l1 : (j : Int) < (nl : Int) := by omega
  have l2 : decide (j < nl) = true := decide_eq_true hl
  have l3 : decide ((j : Int) < (nl : Int)) = true := decide_eq_true l1
  have l4 : decide (nl ≤ j) = false := decide_eq_false (by omega)
  have l5 : decide ((nl : Int) ≤ (j : Int)) = false := decide_eq_false (by omega)
  have k1 : (kd == 3) = false := by simp; omega
  have k2 : (kd != 3) = true := by simp; omega
  go_enter Try.func22, Try.ntmps22
  go_wp2
  go_ret
  exact ⟨ret_bool (by first | rfl | (simp [*]; done) | (simp; done) | (simp; omega)), by (repeat' (first | (with_reducible exact Below.refl _ _) | (with_reducible assumption) | (with_reducible refine below_drewN ?_ _) | (with_reducible refine Below.alloc ?_ ?_ _) | (with_reducible refine Below.drew ?_) | (with_reducible refine Below.setCell ?_ ?_ _) | go_size))⟩

set_option maxHeartbeats 8000000 in
set_option maxRecDepth 100000 in
theorem op1_8f (j b : Nat) (nl c n5 c5 : Nat) (p q : Option Addr) (sel : ByteArray) (args temps prim fields kd : Int) (w : World) (hj : j ≤ 255) (hb : b ≤ 255) (hc1 : nl ≤ c) (hc2 : c ≤ 9223372036854775807) (g off : Nat) (hp : p = some ⟨g, off, none⟩) (hl : j < nl) (hg : w.cell? ⟨g, off + j * 4, none⟩ = some (.int .i64 kd)) (hk : kd ≠ 3) :
    Calls Try.prog 22 #[.agg #[.string sel, .int .i64 args, .int .i64 temps, .int .i64 prim, .slice p nl c, .slice q n5 c5], .agg #[.int .i64 8, .int .i64 (j : Int), .int .i64 (b : Int)], .int .i64 fields] w fun e w' => e = .returned (.bool (decide ((j : Int) < fields))) ∧ Below w.heap.size w w' := by
  subst hp
  have hgl : g < w.heap.size := cell_lt hg
  have l0 : (0 : Int) ≤ (j : Int) := by omega
  have l1 : (j : Int) < (nl : Int) := by omega
  have l2 : decide (j < nl) = true := decide_eq_true hl
  have l3 : decide ((j : Int) < (nl : Int)) = true := decide_eq_true l1
  have l4 : decide (nl ≤ j) = false := decide_eq_false (by omega)
  have l5 : decide ((nl : Int) ≤ (j : Int)) = false := decide_eq_false (by omega)
  have k1 : (kd == 3) = false := by simp; omega
  have k2 : (kd != 3) = true := by simp; omega
  go_enter Try.func22, Try.ntmps22
  go_wp2
  go_ret
  exact ⟨ret_bool (by first | rfl | (simp [*]; done) | (simp; done) | (simp; omega)), by (repeat' (first | (with_reducible exact Below.refl _ _) | (with_reducible assumption) | (with_reducible refine below_drewN ?_ _) | (with_reducible refine Below.alloc ?_ ?_ _) | (with_reducible refine Below.drew ?_) | (with_reducible refine Below.setCell ?_ ?_ _) | go_size))⟩

set_option maxHeartbeats 8000000 in
set_option maxRecDepth 100000 in
theorem op1_11f (j b : Nat) (nl c n5 c5 : Nat) (p q : Option Addr) (sel : ByteArray) (args temps prim fields kd : Int) (w : World) (hj : j ≤ 255) (hb : b ≤ 255) (hc1 : nl ≤ c) (hc2 : c ≤ 9223372036854775807) (g off : Nat) (hp : p = some ⟨g, off, none⟩) (hl : j < nl) (hg : w.cell? ⟨g, off + j * 4, none⟩ = some (.int .i64 kd)) (hk : kd ≠ 3) :
    Calls Try.prog 22 #[.agg #[.string sel, .int .i64 args, .int .i64 temps, .int .i64 prim, .slice p nl c, .slice q n5 c5], .agg #[.int .i64 11, .int .i64 (j : Int), .int .i64 (b : Int)], .int .i64 fields] w fun e w' => e = .returned (.bool (decide ((j : Int) < fields))) ∧ Below w.heap.size w w' := by
  subst hp
  have hgl : g < w.heap.size := cell_lt hg
  have l0 : (0 : Int) ≤ (j : Int) := by omega
  have l1 : (j : Int) < (nl : Int) := by omega
  have l2 : decide (j < nl) = true := decide_eq_true hl
  have l3 : decide ((j : Int) < (nl : Int)) = true := decide_eq_true l1
  have l4 : decide (nl ≤ j) = false := decide_eq_false (by omega)
  have l5 : decide ((nl : Int) ≤ (j : Int)) = false := decide_eq_false (by omega)
  have k1 : (kd == 3) = false := by simp; omega
  have k2 : (kd != 3) = true := by simp; omega
  go_enter Try.func22, Try.ntmps22
  go_wp2
  go_ret
  exact ⟨ret_bool (by first | rfl | (simp [*]; done) | (simp; done) | (simp; omega)), by (repeat' (first | (with_reducible exact Below.refl _ _) | (with_reducible assumption) | (with_reducible refine below_drewN ?_ _) | (with_reducible refine Below.alloc ?_ ?_ _) | (with_reducible refine Below.drew ?_) | (with_reducible refine Below.setCell ?_ ?_ _) | go_size))⟩

set_option maxHeartbeats 8000000 in
set_option maxRecDepth 100000 in
theorem op1_18fy (j b : Nat) (nl c n5 c5 : Nat) (p q : Option Addr) (sel : ByteArray) (args temps prim fields kd : Int) (w : World) (hj : j ≤ 255) (hb : b ≤ 255) (hc1 : nl ≤ c) (hc2 : c ≤ 9223372036854775807) (g off : Nat) (hp : p = some ⟨g, off, none⟩) (hl : j < nl) (hg : w.cell? ⟨g, off + j * 4, none⟩ = some (.int .i64 kd)) (hk : kd ≠ 3) (h4 : b ≤ 4) :
    Calls Try.prog 22 #[.agg #[.string sel, .int .i64 args, .int .i64 temps, .int .i64 prim, .slice p nl c, .slice q n5 c5], .agg #[.int .i64 18, .int .i64 (j : Int), .int .i64 (b : Int)], .int .i64 fields] w fun e w' => e = .returned (.bool (decide ((j : Int) + (b : Int) ≤ temps))) ∧ Below w.heap.size w w' := by
  subst hp
  have hgl : g < w.heap.size := cell_lt hg
  have l0 : (0 : Int) ≤ (j : Int) := by omega
  have l1 : (j : Int) < (nl : Int) := by omega
  have l2 : decide (j < nl) = true := decide_eq_true hl
  have l3 : decide ((j : Int) < (nl : Int)) = true := decide_eq_true l1
  have l4 : decide (nl ≤ j) = false := decide_eq_false (by omega)
  have l5 : decide ((nl : Int) ≤ (j : Int)) = false := decide_eq_false (by omega)
  have k1 : (kd == 3) = false := by simp; omega
  have k2 : (kd != 3) = true := by simp; omega
  have b1 : decide (b ≤ 4) = true := decide_eq_true h4
  have b2 : decide ((b : Int) ≤ 4) = true := decide_eq_true (by omega)
  have b3 : decide (4 < (b : Int)) = false := decide_eq_false (by omega)
  go_enter Try.func22, Try.ntmps22
  go_wp2
  go_ret
  exact ⟨ret_bool (by first | rfl | (simp [*]; done) | (simp; done) | (simp; omega)), by (repeat' (first | (with_reducible exact Below.refl _ _) | (with_reducible assumption) | (with_reducible refine below_drewN ?_ _) | (with_reducible refine Below.alloc ?_ ?_ _) | (with_reducible refine Below.drew ?_) | (with_reducible refine Below.setCell ?_ ?_ _) | go_size))⟩

set_option maxHeartbeats 8000000 in
set_option maxRecDepth 100000 in
theorem op1_18fn (j b : Nat) (nl c n5 c5 : Nat) (p q : Option Addr) (sel : ByteArray) (args temps prim fields kd : Int) (w : World) (hj : j ≤ 255) (hb : b ≤ 255) (hc1 : nl ≤ c) (hc2 : c ≤ 9223372036854775807) (g off : Nat) (hp : p = some ⟨g, off, none⟩) (hl : j < nl) (hg : w.cell? ⟨g, off + j * 4, none⟩ = some (.int .i64 kd)) (hk : kd ≠ 3) (h4 : ¬ b ≤ 4) :
    Calls Try.prog 22 #[.agg #[.string sel, .int .i64 args, .int .i64 temps, .int .i64 prim, .slice p nl c, .slice q n5 c5], .agg #[.int .i64 18, .int .i64 (j : Int), .int .i64 (b : Int)], .int .i64 fields] w fun e w' => e = .returned (.bool false) ∧ Below w.heap.size w w' := by
  subst hp
  have hgl : g < w.heap.size := cell_lt hg
  have l0 : (0 : Int) ≤ (j : Int) := by omega
  have l1 : (j : Int) < (nl : Int) := by omega
  have l2 : decide (j < nl) = true := decide_eq_true hl
  have l3 : decide ((j : Int) < (nl : Int)) = true := decide_eq_true l1
  have l4 : decide (nl ≤ j) = false := decide_eq_false (by omega)
  have l5 : decide ((nl : Int) ≤ (j : Int)) = false := decide_eq_false (by omega)
  have k1 : (kd == 3) = false := by simp; omega
  have k2 : (kd != 3) = true := by simp; omega
  have b1 : decide (b ≤ 4) = false := decide_eq_false h4
  have b2 : decide ((b : Int) ≤ 4) = false := decide_eq_false (by omega)
  have b3 : decide (4 < (b : Int)) = true := decide_eq_true (by omega)
  go_enter Try.func22, Try.ntmps22
  go_wp2
  go_ret
  exact ⟨ret_bool (by first | rfl | (simp [*]; done) | (simp; done) | (simp; omega)), by (repeat' (first | (with_reducible exact Below.refl _ _) | (with_reducible assumption) | (with_reducible refine below_drewN ?_ _) | (with_reducible refine Below.alloc ?_ ?_ _) | (with_reducible refine Below.drew ?_) | (with_reducible refine Below.setCell ?_ ?_ _) | go_size))⟩

set_option maxHeartbeats 8000000 in
set_option maxRecDepth 100000 in
theorem op1_opf (op : Int) (j b : Nat) (nl c n5 c5 : Nat) (p q : Option Addr) (sel : ByteArray) (args temps prim fields kd : Int) (w : World) (hj : j ≤ 255) (hb : b ≤ 255) (hc1 : nl ≤ c) (hc2 : c ≤ 9223372036854775807) (g off : Nat) (hp : p = some ⟨g, off, none⟩) (hl : j < nl) (hg : w.cell? ⟨g, off + j * 4, none⟩ = some (.int .i64 kd)) (hk : kd ≠ 3) (ho : op ≠ 6 ∧ op ≠ 9 ∧ op ≠ 14 ∧ op ≠ 15 ∧ op ≠ 7 ∧ op ≠ 10 ∧ op ≠ 8 ∧ op ≠ 11 ∧ op ≠ 18) :
    Calls Try.prog 22 #[.agg #[.string sel, .int .i64 args, .int .i64 temps, .int .i64 prim, .slice p nl c, .slice q n5 c5], .agg #[.int .i64 op, .int .i64 (j : Int), .int .i64 (b : Int)], .int .i64 fields] w fun e w' => e = .returned (.bool true) ∧ Below w.heap.size w w' := by
  subst hp
  have hgl : g < w.heap.size := cell_lt hg
  have l0 : (0 : Int) ≤ (j : Int) := by omega
  have l1 : (j : Int) < (nl : Int) := by omega
  have l2 : decide (j < nl) = true := decide_eq_true hl
  have l3 : decide ((j : Int) < (nl : Int)) = true := decide_eq_true l1
  have l4 : decide (nl ≤ j) = false := decide_eq_false (by omega)
  have l5 : decide ((nl : Int) ≤ (j : Int)) = false := decide_eq_false (by omega)
  have k1 : (kd == 3) = false := by simp; omega
  have k2 : (kd != 3) = true := by simp; omega
  have o6 : (op == 6) = false := by simp; omega
  have o9 : (op == 9) = false := by simp; omega
  have o14 : (op == 14) = false := by simp; omega
  have o15 : (op == 15) = false := by simp; omega
  have o7 : (op == 7) = false := by simp; omega
  have o10 : (op == 10) = false := by simp; omega
  have o8 : (op == 8) = false := by simp; omega
  have o11 : (op == 11) = false := by simp; omega
  have o18 : (op == 18) = false := by simp; omega
  have q6 : (op != 6) = true := by simp; omega
  have q18 : (op != 18) = true := by simp; omega
  go_enter Try.func22, Try.ntmps22
  go_wp2
  go_ret
  exact ⟨ret_bool (by first | rfl | (simp [*]; done) | (simp; done) | (simp; omega)), by (repeat' (first | (with_reducible exact Below.refl _ _) | (with_reducible assumption) | (with_reducible refine below_drewN ?_ _) | (with_reducible refine Below.alloc ?_ ?_ _) | (with_reducible refine Below.drew ?_) | (with_reducible refine Below.setCell ?_ ?_ _) | go_size))⟩
end Go.Proofs.Ytnjfjebmkajpbaa

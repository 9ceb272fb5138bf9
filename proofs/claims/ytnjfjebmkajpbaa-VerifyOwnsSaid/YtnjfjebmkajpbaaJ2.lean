/- Contracts: whether an instruction's operands are there, by the reference. -/
import Derived.Test.YtnjfjebmkajpbaaJ1
namespace Go.Proofs.Ytnjfjebmkajpbaa
open Go.ChangeShapes Go.WideShapes Go.ChangeAt Go.RowKit
set_option linter.unusedVariables false
set_option linter.unusedSimpArgs false

set_option maxHeartbeats 8000000 in
set_option maxRecDepth 100000 in
theorem op2_60 (j b : Nat) (nl c n5 c5 : Nat) (p q : Option Addr) (sel : ByteArray) (args temps prim fields kd : Int) (w : World) (hj : j ≤ 255) (hb : b ≤ 255) (hc1 : nl ≤ c) (hc2 : c ≤ 9223372036854775807) (hl : ¬ j < nl) :
    Calls Try.prog 43 #[.agg #[.string sel, .int .i64 args, .int .i64 temps, .int .i64 prim, .slice p nl c, .slice q n5 c5], .agg #[.int .i64 6, .int .i64 (j : Int), .int .i64 (b : Int)], .int .i64 fields] w fun e w' => e = .returned (.bool false) ∧ Below w.heap.size w w' := by
  have l2 : decide (j < nl) = false := decide_eq_false hl
  have l3 : decide ((j : Int) < (nl : Int)) = false := decide_eq_false (by omega)
  have l4 : decide (nl ≤ j) = true := decide_eq_true (by omega)
  have l5 : decide ((nl : Int) ≤ (j : Int)) = true := decide_eq_true (by omega)
  have l6 : ¬ (j : Int) < (nl : Int) := by omega
  go_enter Try.func43, Try.ntmps43
  go_wp2
  go_ret
  exact ⟨ret_bool (by first | rfl | (simp [*]; done) | (simp; done) | (simp; omega)), by (repeat' (first | (with_reducible exact Below.refl _ _) | (with_reducible assumption) | (with_reducible refine below_drewN ?_ _) | (with_reducible refine Below.alloc ?_ ?_ _) | (with_reducible refine Below.drew ?_) | (with_reducible refine Below.setCell ?_ ?_ _) | go_size))⟩

set_option maxHeartbeats 8000000 in
set_option maxRecDepth 100000 in
theorem op2_6t (j b : Nat) (nl c n5 c5 : Nat) (p q : Option Addr) (sel : ByteArray) (args temps prim fields kd : Int) (w : World) (hj : j ≤ 255) (hb : b ≤ 255) (hc1 : nl ≤ c) (hc2 : c ≤ 9223372036854775807) (g off : Nat) (hp : p = some ⟨g, off, none⟩) (hl : j < nl) (hk : kd = 3) (hg : w.cell? ⟨g, off + j * 4, none⟩ = some (.int .i64 3)) :
    Calls Try.prog 43 #[.agg #[.string sel, .int .i64 args, .int .i64 temps, .int .i64 prim, .slice p nl c, .slice q n5 c5], .agg #[.int .i64 6, .int .i64 (j : Int), .int .i64 (b : Int)], .int .i64 fields] w fun e w' => e = .returned (.bool true) ∧ Below w.heap.size w w' := by
  subst hk
  subst hp
  have hgl : g < w.heap.size := cell_lt hg
  have l0 : (0 : Int) ≤ (j : Int) := by omega
  have l1 : (j : Int) < (nl : Int) := by omega
  have l2 : decide (j < nl) = true := decide_eq_true hl
  have l3 : decide ((j : Int) < (nl : Int)) = true := decide_eq_true l1
  have l4 : decide (nl ≤ j) = false := decide_eq_false (by omega)
  have l5 : decide ((nl : Int) ≤ (j : Int)) = false := decide_eq_false (by omega)
  go_enter Try.func43, Try.ntmps43
  go_wp2
  go_ret
  exact ⟨ret_bool (by first | rfl | (simp [*]; done) | (simp; done) | (simp; omega)), by (repeat' (first | (with_reducible exact Below.refl _ _) | (with_reducible assumption) | (with_reducible refine below_drewN ?_ _) | (with_reducible refine Below.alloc ?_ ?_ _) | (with_reducible refine Below.drew ?_) | (with_reducible refine Below.setCell ?_ ?_ _) | go_size))⟩

set_option maxHeartbeats 8000000 in
set_option maxRecDepth 100000 in
theorem op2_6f (j b : Nat) (nl c n5 c5 : Nat) (p q : Option Addr) (sel : ByteArray) (args temps prim fields kd : Int) (w : World) (hj : j ≤ 255) (hb : b ≤ 255) (hc1 : nl ≤ c) (hc2 : c ≤ 9223372036854775807) (g off : Nat) (hp : p = some ⟨g, off, none⟩) (hl : j < nl) (hg : w.cell? ⟨g, off + j * 4, none⟩ = some (.int .i64 kd)) (hk : kd ≠ 3) :
    Calls Try.prog 43 #[.agg #[.string sel, .int .i64 args, .int .i64 temps, .int .i64 prim, .slice p nl c, .slice q n5 c5], .agg #[.int .i64 6, .int .i64 (j : Int), .int .i64 (b : Int)], .int .i64 fields] w fun e w' => e = .returned (.bool true) ∧ Below w.heap.size w w' := by
  subst hp
  have hgl : g < w.heap.size := cell_lt hg
  have l0 : (0 : Int) ≤ (j : Int) := by omega
  have l1 : (j : Int) < (nl : Int) := by omega
  have l2 : decide (j < nl) = true := decide_eq_true hl
  have l3 : decide ((j : Int) < (nl : Int)) = true := decide_eq_true l1
  have l4 : decide (nl ≤ j) = false := decide_eq_false (by omega)
  have l5 : decide ((nl : Int) ≤ (j : Int)) = false := decide_eq_false (by omega)
  have k1 : (kd == 3) = false := by simp; omega
  have k2 : (kd != 3) = true := by simp; omega
  go_enter Try.func43, Try.ntmps43
  go_wp2
  go_ret
  exact ⟨ret_bool (by first | rfl | (simp [*]; done) | (simp; done) | (simp; omega)), by (repeat' (first | (with_reducible exact Below.refl _ _) | (with_reducible assumption) | (with_reducible refine below_drewN ?_ _) | (with_reducible refine Below.alloc ?_ ?_ _) | (with_reducible refine Below.drew ?_) | (with_reducible refine Below.setCell ?_ ?_ _) | go_size))⟩

set_option maxHeartbeats 8000000 in
set_option maxRecDepth 100000 in
theorem op2_90 (j b : Nat) (nl c n5 c5 : Nat) (p q : Option Addr) (sel : ByteArray) (args temps prim fields kd : Int) (w : World) (hj : j ≤ 255) (hb : b ≤ 255) (hc1 : nl ≤ c) (hc2 : c ≤ 9223372036854775807) (hl : ¬ j < nl) :
    Calls Try.prog 43 #[.agg #[.string sel, .int .i64 args, .int .i64 temps, .int .i64 prim, .slice p nl c, .slice q n5 c5], .agg #[.int .i64 9, .int .i64 (j : Int), .int .i64 (b : Int)], .int .i64 fields] w fun e w' => e = .returned (.bool false) ∧ Below w.heap.size w w' := by
  have l2 : decide (j < nl) = false := decide_eq_false hl
  have l3 : decide ((j : Int) < (nl : Int)) = false := decide_eq_false (by omega)
  have l4 : decide (nl ≤ j) = true := decide_eq_true (by omega)
  have l5 : decide ((nl : Int) ≤ (j : Int)) = true := decide_eq_true (by omega)
  have l6 : ¬ (j : Int) < (nl : Int) := by omega
  go_enter Try.func43, Try.ntmps43
  go_wp2
  go_ret
  exact ⟨ret_bool (by first | rfl | (simp [*]; done) | (simp; done) | (simp; omega)), by (repeat' (first | (with_reducible exact Below.refl _ _) | (with_reducible assumption) | (with_reducible refine below_drewN ?_ _) | (with_reducible refine Below.alloc ?_ ?_ _) | (with_reducible refine Below.drew ?_) | (with_reducible refine Below.setCell ?_ ?_ _) | go_size))⟩

set_option maxHeartbeats 8000000 in
set_option maxRecDepth 100000 in
theorem op2_9t (j b : Nat) (nl c n5 c5 : Nat) (p q : Option Addr) (sel : ByteArray) (args temps prim fields kd : Int) (w : World) (hj : j ≤ 255) (hb : b ≤ 255) (hc1 : nl ≤ c) (hc2 : c ≤ 9223372036854775807) (g off : Nat) (hp : p = some ⟨g, off, none⟩) (hl : j < nl) (hk : kd = 3) (hg : w.cell? ⟨g, off + j * 4, none⟩ = some (.int .i64 3)) :
    Calls Try.prog 43 #[.agg #[.string sel, .int .i64 args, .int .i64 temps, .int .i64 prim, .slice p nl c, .slice q n5 c5], .agg #[.int .i64 9, .int .i64 (j : Int), .int .i64 (b : Int)], .int .i64 fields] w fun e w' => e = .returned (.bool true) ∧ Below w.heap.size w w' := by
  subst hk
  subst hp
  have hgl : g < w.heap.size := cell_lt hg
  have l0 : (0 : Int) ≤ (j : Int) := by omega
  have l1 : (j : Int) < (nl : Int) := by omega
  have l2 : decide (j < nl) = true := decide_eq_true hl
  have l3 : decide ((j : Int) < (nl : Int)) = true := decide_eq_true l1
  have l4 : decide (nl ≤ j) = false := decide_eq_false (by omega)
  have l5 : decide ((nl : Int) ≤ (j : Int)) = false := decide_eq_false (by omega)
  go_enter Try.func43, Try.ntmps43
  go_wp2
  go_ret
  exact ⟨ret_bool (by first | rfl | (simp [*]; done) | (simp; done) | (simp; omega)), by (repeat' (first | (with_reducible exact Below.refl _ _) | (with_reducible assumption) | (with_reducible refine below_drewN ?_ _) | (with_reducible refine Below.alloc ?_ ?_ _) | (with_reducible refine Below.drew ?_) | (with_reducible refine Below.setCell ?_ ?_ _) | go_size))⟩

set_option maxHeartbeats 8000000 in
set_option maxRecDepth 100000 in
theorem op2_9f (j b : Nat) (nl c n5 c5 : Nat) (p q : Option Addr) (sel : ByteArray) (args temps prim fields kd : Int) (w : World) (hj : j ≤ 255) (hb : b ≤ 255) (hc1 : nl ≤ c) (hc2 : c ≤ 9223372036854775807) (g off : Nat) (hp : p = some ⟨g, off, none⟩) (hl : j < nl) (hg : w.cell? ⟨g, off + j * 4, none⟩ = some (.int .i64 kd)) (hk : kd ≠ 3) :
    Calls Try.prog 43 #[.agg #[.string sel, .int .i64 args, .int .i64 temps, .int .i64 prim, .slice p nl c, .slice q n5 c5], .agg #[.int .i64 9, .int .i64 (j : Int), .int .i64 (b : Int)], .int .i64 fields] w fun e w' => e = .returned (.bool false) ∧ Below w.heap.size w w' := by
  subst hp
  have hgl : g < w.heap.size := cell_lt hg
  have l0 : (0 : Int) ≤ (j : Int) := by omega
  have l1 : (j : Int) < (nl : Int) := by omega
  have l2 : decide (j < nl) = true := decide_eq_true hl
  have l3 : decide ((j : Int) < (nl : Int)) = true := decide_eq_true l1
  have l4 : decide (nl ≤ j) = false := decide_eq_false (by omega)
  have l5 : decide ((nl : Int) ≤ (j : Int)) = false := decide_eq_false (by omega)
  have k1 : (kd == 3) = false := by simp; omega
  have k2 : (kd != 3) = true := by simp; omega
  go_enter Try.func43, Try.ntmps43
  go_wp2
  go_ret
  exact ⟨ret_bool (by first | rfl | (simp [*]; done) | (simp; done) | (simp; omega)), by (repeat' (first | (with_reducible exact Below.refl _ _) | (with_reducible assumption) | (with_reducible refine below_drewN ?_ _) | (with_reducible refine Below.alloc ?_ ?_ _) | (with_reducible refine Below.drew ?_) | (with_reducible refine Below.setCell ?_ ?_ _) | go_size))⟩

set_option maxHeartbeats 8000000 in
set_option maxRecDepth 100000 in
theorem op2_140 (j b : Nat) (nl c n5 c5 : Nat) (p q : Option Addr) (sel : ByteArray) (args temps prim fields kd : Int) (w : World) (hj : j ≤ 255) (hb : b ≤ 255) (hc1 : nl ≤ c) (hc2 : c ≤ 9223372036854775807) (hl : ¬ j < nl) :
    Calls Try.prog 43 #[.agg #[.string sel, .int .i64 args, .int .i64 temps, .int .i64 prim, .slice p nl c, .slice q n5 c5], .agg #[.int .i64 14, .int .i64 (j : Int), .int .i64 (b : Int)], .int .i64 fields] w fun e w' => e = .returned (.bool false) ∧ Below w.heap.size w w' := by
  have l2 : decide (j < nl) = false := decide_eq_false hl
  have l3 : decide ((j : Int) < (nl : Int)) = false := decide_eq_false (by omega)
  have l4 : decide (nl ≤ j) = true := decide_eq_true (by omega)
  have l5 : decide ((nl : Int) ≤ (j : Int)) = true := decide_eq_true (by omega)
  have l6 : ¬ (j : Int) < (nl : Int) := by omega
  go_enter Try.func43, Try.ntmps43
  go_wp2
  go_ret
  exact ⟨ret_bool (by first | rfl | (simp [*]; done) | (simp; done) | (simp; omega)), by (repeat' (first | (with_reducible exact Below.refl _ _) | (with_reducible assumption) | (with_reducible refine below_drewN ?_ _) | (with_reducible refine Below.alloc ?_ ?_ _) | (with_reducible refine Below.drew ?_) | (with_reducible refine Below.setCell ?_ ?_ _) | go_size))⟩

set_option maxHeartbeats 8000000 in
set_option maxRecDepth 100000 in
theorem op2_14ty (j b : Nat) (nl c n5 c5 : Nat) (p q : Option Addr) (sel : ByteArray) (args temps prim fields kd : Int) (w : World) (hj : j ≤ 255) (hb : b ≤ 255) (hc1 : nl ≤ c) (hc2 : c ≤ 9223372036854775807) (g off : Nat) (hp : p = some ⟨g, off, none⟩) (hl : j < nl) (hk : kd = 3) (hg : w.cell? ⟨g, off + j * 4, none⟩ = some (.int .i64 3)) (h4 : b ≤ 4) :
    Calls Try.prog 43 #[.agg #[.string sel, .int .i64 args, .int .i64 temps, .int .i64 prim, .slice p nl c, .slice q n5 c5], .agg #[.int .i64 14, .int .i64 (j : Int), .int .i64 (b : Int)], .int .i64 fields] w fun e w' => e = .returned (.bool true) ∧ Below w.heap.size w w' := by
  subst hk
  subst hp
  have hgl : g < w.heap.size := cell_lt hg
  have l0 : (0 : Int) ≤ (j : Int) := by omega
  have l1 : (j : Int) < (nl : Int) := by omega
  have l2 : decide (j < nl) = true := decide_eq_true hl
  have l3 : decide ((j : Int) < (nl : Int)) = true := decide_eq_true l1
  have l4 : decide (nl ≤ j) = false := decide_eq_false (by omega)
  have l5 : decide ((nl : Int) ≤ (j : Int)) = false := decide_eq_false (by omega)
  have b1 : decide (b ≤ 4) = true := decide_eq_true h4
  have b2 : decide ((b : Int) ≤ 4) = true := decide_eq_true (by omega)
  have b3 : decide (4 < (b : Int)) = false := decide_eq_false (by omega)
  go_enter Try.func43, Try.ntmps43
  go_wp2
  go_ret
  exact ⟨ret_bool (by first | rfl | (simp [*]; done) | (simp; done) | (simp; omega)), by (repeat' (first | (with_reducible exact Below.refl _ _) | (with_reducible assumption) | (with_reducible refine below_drewN ?_ _) | (with_reducible refine Below.alloc ?_ ?_ _) | (with_reducible refine Below.drew ?_) | (with_reducible refine Below.setCell ?_ ?_ _) | go_size))⟩

set_option maxHeartbeats 8000000 in
set_option maxRecDepth 100000 in
theorem op2_14tn (j b : Nat) (nl c n5 c5 : Nat) (p q : Option Addr) (sel : ByteArray) (args temps prim fields kd : Int) (w : World) (hj : j ≤ 255) (hb : b ≤ 255) (hc1 : nl ≤ c) (hc2 : c ≤ 9223372036854775807) (g off : Nat) (hp : p = some ⟨g, off, none⟩) (hl : j < nl) (hk : kd = 3) (hg : w.cell? ⟨g, off + j * 4, none⟩ = some (.int .i64 3)) (h4 : ¬ b ≤ 4) :
    Calls Try.prog 43 #[.agg #[.string sel, .int .i64 args, .int .i64 temps, .int .i64 prim, .slice p nl c, .slice q n5 c5], .agg #[.int .i64 14, .int .i64 (j : Int), .int .i64 (b : Int)], .int .i64 fields] w fun e w' => e = .returned (.bool false) ∧ Below w.heap.size w w' := by
  subst hk
  subst hp
  have hgl : g < w.heap.size := cell_lt hg
  have l0 : (0 : Int) ≤ (j : Int) := by omega
  have l1 : (j : Int) < (nl : Int) := by omega
  have l2 : decide (j < nl) = true := decide_eq_true hl
  have l3 : decide ((j : Int) < (nl : Int)) = true := decide_eq_true l1
  have l4 : decide (nl ≤ j) = false := decide_eq_false (by omega)
  have l5 : decide ((nl : Int) ≤ (j : Int)) = false := decide_eq_false (by omega)
  have b1 : decide (b ≤ 4) = false := decide_eq_false h4
  have b2 : decide ((b : Int) ≤ 4) = false := decide_eq_false (by omega)
  have b3 : decide (4 < (b : Int)) = true := decide_eq_true (by omega)
  go_enter Try.func43, Try.ntmps43
  go_wp2
  go_ret
  exact ⟨ret_bool (by first | rfl | (simp [*]; done) | (simp; done) | (simp; omega)), by (repeat' (first | (with_reducible exact Below.refl _ _) | (with_reducible assumption) | (with_reducible refine below_drewN ?_ _) | (with_reducible refine Below.alloc ?_ ?_ _) | (with_reducible refine Below.drew ?_) | (with_reducible refine Below.setCell ?_ ?_ _) | go_size))⟩

set_option maxHeartbeats 8000000 in
set_option maxRecDepth 100000 in
theorem op2_14f (j b : Nat) (nl c n5 c5 : Nat) (p q : Option Addr) (sel : ByteArray) (args temps prim fields kd : Int) (w : World) (hj : j ≤ 255) (hb : b ≤ 255) (hc1 : nl ≤ c) (hc2 : c ≤ 9223372036854775807) (g off : Nat) (hp : p = some ⟨g, off, none⟩) (hl : j < nl) (hg : w.cell? ⟨g, off + j * 4, none⟩ = some (.int .i64 kd)) (hk : kd ≠ 3) :
    Calls Try.prog 43 #[.agg #[.string sel, .int .i64 args, .int .i64 temps, .int .i64 prim, .slice p nl c, .slice q n5 c5], .agg #[.int .i64 14, .int .i64 (j : Int), .int .i64 (b : Int)], .int .i64 fields] w fun e w' => e = .returned (.bool false) ∧ Below w.heap.size w w' := by
  subst hp
  have hgl : g < w.heap.size := cell_lt hg
  have l0 : (0 : Int) ≤ (j : Int) := by omega
  have l1 : (j : Int) < (nl : Int) := by omega
  have l2 : decide (j < nl) = true := decide_eq_true hl
  have l3 : decide ((j : Int) < (nl : Int)) = true := decide_eq_true l1
  have l4 : decide (nl ≤ j) = false := decide_eq_false (by omega)
  have l5 : decide ((nl : Int) ≤ (j : Int)) = false := decide_eq_false (by omega)
  have k1 : (kd == 3) = false := by simp; omega
  have k2 : (kd != 3) = true := by simp; omega
  go_enter Try.func43, Try.ntmps43
  go_wp2
  go_ret
  exact ⟨ret_bool (by first | rfl | (simp [*]; done) | (simp; done) | (simp; omega)), by (repeat' (first | (with_reducible exact Below.refl _ _) | (with_reducible assumption) | (with_reducible refine below_drewN ?_ _) | (with_reducible refine Below.alloc ?_ ?_ _) | (with_reducible refine Below.drew ?_) | (with_reducible refine Below.setCell ?_ ?_ _) | go_size))⟩

set_option maxHeartbeats 8000000 in
set_option maxRecDepth 100000 in
theorem op2_150 (j b : Nat) (nl c n5 c5 : Nat) (p q : Option Addr) (sel : ByteArray) (args temps prim fields kd : Int) (w : World) (hj : j ≤ 255) (hb : b ≤ 255) (hc1 : nl ≤ c) (hc2 : c ≤ 9223372036854775807) (hl : ¬ j < nl) :
    Calls Try.prog 43 #[.agg #[.string sel, .int .i64 args, .int .i64 temps, .int .i64 prim, .slice p nl c, .slice q n5 c5], .agg #[.int .i64 15, .int .i64 (j : Int), .int .i64 (b : Int)], .int .i64 fields] w fun e w' => e = .returned (.bool false) ∧ Below w.heap.size w w' := by
  have l2 : decide (j < nl) = false := decide_eq_false hl
  have l3 : decide ((j : Int) < (nl : Int)) = false := decide_eq_false (by omega)
  have l4 : decide (nl ≤ j) = true := decide_eq_true (by omega)
  have l5 : decide ((nl : Int) ≤ (j : Int)) = true := decide_eq_true (by omega)
  have l6 : ¬ (j : Int) < (nl : Int) := by omega
  go_enter Try.func43, Try.ntmps43
  go_wp2
  go_ret
  exact ⟨ret_bool (by first | rfl | (simp [*]; done) | (simp; done) | (simp; omega)), by (repeat' (first | (with_reducible exact Below.refl _ _) | (with_reducible assumption) | (with_reducible refine below_drewN ?_ _) | (with_reducible refine Below.alloc ?_ ?_ _) | (with_reducible refine Below.drew ?_) | (with_reducible refine Below.setCell ?_ ?_ _) | go_size))⟩

set_option maxHeartbeats 8000000 in
set_option maxRecDepth 100000 in
theorem op2_15ty (j b : Nat) (nl c n5 c5 : Nat) (p q : Option Addr) (sel : ByteArray) (args temps prim fields kd : Int) (w : World) (hj : j ≤ 255) (hb : b ≤ 255) (hc1 : nl ≤ c) (hc2 : c ≤ 9223372036854775807) (g off : Nat) (hp : p = some ⟨g, off, none⟩) (hl : j < nl) (hk : kd = 3) (hg : w.cell? ⟨g, off + j * 4, none⟩ = some (.int .i64 3)) (h4 : b ≤ 4) :
    Calls Try.prog 43 #[.agg #[.string sel, .int .i64 args, .int .i64 temps, .int .i64 prim, .slice p nl c, .slice q n5 c5], .agg #[.int .i64 15, .int .i64 (j : Int), .int .i64 (b : Int)], .int .i64 fields] w fun e w' => e = .returned (.bool true) ∧ Below w.heap.size w w' := by
  subst hk
  subst hp
  have hgl : g < w.heap.size := cell_lt hg
  have l0 : (0 : Int) ≤ (j : Int) := by omega
  have l1 : (j : Int) < (nl : Int) := by omega
  have l2 : decide (j < nl) = true := decide_eq_true hl
  have l3 : decide ((j : Int) < (nl : Int)) = true := decide_eq_true l1
  have l4 : decide (nl ≤ j) = false := decide_eq_false (by omega)
  have l5 : decide ((nl : Int) ≤ (j : Int)) = false := decide_eq_false (by omega)
  have b1 : decide (b ≤ 4) = true := decide_eq_true h4
  have b2 : decide ((b : Int) ≤ 4) = true := decide_eq_true (by omega)
  have b3 : decide (4 < (b : Int)) = false := decide_eq_false (by omega)
  go_enter Try.func43, Try.ntmps43
  go_wp2
  go_ret
  exact ⟨ret_bool (by first | rfl | (simp [*]; done) | (simp; done) | (simp; omega)), by (repeat' (first | (with_reducible exact Below.refl _ _) | (with_reducible assumption) | (with_reducible refine below_drewN ?_ _) | (with_reducible refine Below.alloc ?_ ?_ _) | (with_reducible refine Below.drew ?_) | (with_reducible refine Below.setCell ?_ ?_ _) | go_size))⟩

set_option maxHeartbeats 8000000 in
set_option maxRecDepth 100000 in
theorem op2_15tn (j b : Nat) (nl c n5 c5 : Nat) (p q : Option Addr) (sel : ByteArray) (args temps prim fields kd : Int) (w : World) (hj : j ≤ 255) (hb : b ≤ 255) (hc1 : nl ≤ c) (hc2 : c ≤ 9223372036854775807) (g off : Nat) (hp : p = some ⟨g, off, none⟩) (hl : j < nl) (hk : kd = 3) (hg : w.cell? ⟨g, off + j * 4, none⟩ = some (.int .i64 3)) (h4 : ¬ b ≤ 4) :
    Calls Try.prog 43 #[.agg #[.string sel, .int .i64 args, .int .i64 temps, .int .i64 prim, .slice p nl c, .slice q n5 c5], .agg #[.int .i64 15, .int .i64 (j : Int), .int .i64 (b : Int)], .int .i64 fields] w fun e w' => e = .returned (.bool false) ∧ Below w.heap.size w w' := by
  subst hk
  subst hp
  have hgl : g < w.heap.size := cell_lt hg
  have l0 : (0 : Int) ≤ (j : Int) := by omega
  have l1 : (j : Int) < (nl : Int) := by omega
  have l2 : decide (j < nl) = true := decide_eq_true hl
  have l3 : decide ((j : Int) < (nl : Int)) = true := decide_eq_true l1
  have l4 : decide (nl ≤ j) = false := decide_eq_false (by omega)
  have l5 : decide ((nl : Int) ≤ (j : Int)) = false := decide_eq_false (by omega)
  have b1 : decide (b ≤ 4) = false := decide_eq_false h4
  have b2 : decide ((b : Int) ≤ 4) = false := decide_eq_false (by omega)
  have b3 : decide (4 < (b : Int)) = true := decide_eq_true (by omega)
  go_enter Try.func43, Try.ntmps43
  go_wp2
  go_ret
  exact ⟨ret_bool (by first | rfl | (simp [*]; done) | (simp; done) | (simp; omega)), by (repeat' (first | (with_reducible exact Below.refl _ _) | (with_reducible assumption) | (with_reducible refine below_drewN ?_ _) | (with_reducible refine Below.alloc ?_ ?_ _) | (with_reducible refine Below.drew ?_) | (with_reducible refine Below.setCell ?_ ?_ _) | go_size))⟩

set_option maxHeartbeats 8000000 in
set_option maxRecDepth 100000 in
theorem op2_15f (j b : Nat) (nl c n5 c5 : Nat) (p q : Option Addr) (sel : ByteArray) (args temps prim fields kd : Int) (w : World) (hj : j ≤ 255) (hb : b ≤ 255) (hc1 : nl ≤ c) (hc2 : c ≤ 9223372036854775807) (g off : Nat) (hp : p = some ⟨g, off, none⟩) (hl : j < nl) (hg : w.cell? ⟨g, off + j * 4, none⟩ = some (.int .i64 kd)) (hk : kd ≠ 3) :
    Calls Try.prog 43 #[.agg #[.string sel, .int .i64 args, .int .i64 temps, .int .i64 prim, .slice p nl c, .slice q n5 c5], .agg #[.int .i64 15, .int .i64 (j : Int), .int .i64 (b : Int)], .int .i64 fields] w fun e w' => e = .returned (.bool false) ∧ Below w.heap.size w w' := by
  subst hp
  have hgl : g < w.heap.size := cell_lt hg
  have l0 : (0 : Int) ≤ (j : Int) := by omega
  have l1 : (j : Int) < (nl : Int) := by omega
  have l2 : decide (j < nl) = true := decide_eq_true hl
  have l3 : decide ((j : Int) < (nl : Int)) = true := decide_eq_true l1
  have l4 : decide (nl ≤ j) = false := decide_eq_false (by omega)
  have l5 : decide ((nl : Int) ≤ (j : Int)) = false := decide_eq_false (by omega)
  have k1 : (kd == 3) = false := by simp; omega
  have k2 : (kd != 3) = true := by simp; omega
  go_enter Try.func43, Try.ntmps43
  go_wp2
  go_ret
  exact ⟨ret_bool (by first | rfl | (simp [*]; done) | (simp; done) | (simp; omega)), by (repeat' (first | (with_reducible exact Below.refl _ _) | (with_reducible assumption) | (with_reducible refine below_drewN ?_ _) | (with_reducible refine Below.alloc ?_ ?_ _) | (with_reducible refine Below.drew ?_) | (with_reducible refine Below.setCell ?_ ?_ _) | go_size))⟩

set_option maxHeartbeats 8000000 in
set_option maxRecDepth 100000 in
theorem op2_7y (j b : Nat) (nl c n5 c5 : Nat) (p q : Option Addr) (sel : ByteArray) (args temps prim fields kd : Int) (w : World) (hj : j ≤ 255) (hb : b ≤ 255) (hc1 : nl ≤ c) (hc2 : c ≤ 9223372036854775807) (h5 : (j : Int) < temps) :
    Calls Try.prog 43 #[.agg #[.string sel, .int .i64 args, .int .i64 temps, .int .i64 prim, .slice p nl c, .slice q n5 c5], .agg #[.int .i64 7, .int .i64 (j : Int), .int .i64 (b : Int)], .int .i64 fields] w fun e w' => e = .returned (.bool true) ∧ Below w.heap.size w w' := by
  have e1 : decide ((j : Int) < temps) = true := decide_eq_true h5
  have e2 : decide (temps ≤ (j : Int)) = false := decide_eq_false (by omega)
  go_enter Try.func43, Try.ntmps43
  go_wp2
  go_ret
  exact ⟨ret_bool (by first | rfl | (simp [*]; done) | (simp; done) | (simp; omega)), by (repeat' (first | (with_reducible exact Below.refl _ _) | (with_reducible assumption) | (with_reducible refine below_drewN ?_ _) | (with_reducible refine Below.alloc ?_ ?_ _) | (with_reducible refine Below.drew ?_) | (with_reducible refine Below.setCell ?_ ?_ _) | go_size))⟩

set_option maxHeartbeats 8000000 in
set_option maxRecDepth 100000 in
theorem op2_7n (j b : Nat) (nl c n5 c5 : Nat) (p q : Option Addr) (sel : ByteArray) (args temps prim fields kd : Int) (w : World) (hj : j ≤ 255) (hb : b ≤ 255) (hc1 : nl ≤ c) (hc2 : c ≤ 9223372036854775807) (h5 : ¬ (j : Int) < temps) :
    Calls Try.prog 43 #[.agg #[.string sel, .int .i64 args, .int .i64 temps, .int .i64 prim, .slice p nl c, .slice q n5 c5], .agg #[.int .i64 7, .int .i64 (j : Int), .int .i64 (b : Int)], .int .i64 fields] w fun e w' => e = .returned (.bool false) ∧ Below w.heap.size w w' := by
  have e1 : decide ((j : Int) < temps) = false := decide_eq_false h5
  have e2 : decide (temps ≤ (j : Int)) = true := decide_eq_true (by omega)
  go_enter Try.func43, Try.ntmps43
  go_wp2
  go_ret
  exact ⟨ret_bool (by first | rfl | (simp [*]; done) | (simp; done) | (simp; omega)), by (repeat' (first | (with_reducible exact Below.refl _ _) | (with_reducible assumption) | (with_reducible refine below_drewN ?_ _) | (with_reducible refine Below.alloc ?_ ?_ _) | (with_reducible refine Below.drew ?_) | (with_reducible refine Below.setCell ?_ ?_ _) | go_size))⟩

set_option maxHeartbeats 8000000 in
set_option maxRecDepth 100000 in
theorem op2_10y (j b : Nat) (nl c n5 c5 : Nat) (p q : Option Addr) (sel : ByteArray) (args temps prim fields kd : Int) (w : World) (hj : j ≤ 255) (hb : b ≤ 255) (hc1 : nl ≤ c) (hc2 : c ≤ 9223372036854775807) (h5 : (j : Int) < temps) :
    Calls Try.prog 43 #[.agg #[.string sel, .int .i64 args, .int .i64 temps, .int .i64 prim, .slice p nl c, .slice q n5 c5], .agg #[.int .i64 10, .int .i64 (j : Int), .int .i64 (b : Int)], .int .i64 fields] w fun e w' => e = .returned (.bool true) ∧ Below w.heap.size w w' := by
  have e1 : decide ((j : Int) < temps) = true := decide_eq_true h5
  have e2 : decide (temps ≤ (j : Int)) = false := decide_eq_false (by omega)
  go_enter Try.func43, Try.ntmps43
  go_wp2
  go_ret
  exact ⟨ret_bool (by first | rfl | (simp [*]; done) | (simp; done) | (simp; omega)), by (repeat' (first | (with_reducible exact Below.refl _ _) | (with_reducible assumption) | (with_reducible refine below_drewN ?_ _) | (with_reducible refine Below.alloc ?_ ?_ _) | (with_reducible refine Below.drew ?_) | (with_reducible refine Below.setCell ?_ ?_ _) | go_size))⟩

set_option maxHeartbeats 8000000 in
set_option maxRecDepth 100000 in
theorem op2_10n (j b : Nat) (nl c n5 c5 : Nat) (p q : Option Addr) (sel : ByteArray) (args temps prim fields kd : Int) (w : World) (hj : j ≤ 255) (hb : b ≤ 255) (hc1 : nl ≤ c) (hc2 : c ≤ 9223372036854775807) (h5 : ¬ (j : Int) < temps) :
    Calls Try.prog 43 #[.agg #[.string sel, .int .i64 args, .int .i64 temps, .int .i64 prim, .slice p nl c, .slice q n5 c5], .agg #[.int .i64 10, .int .i64 (j : Int), .int .i64 (b : Int)], .int .i64 fields] w fun e w' => e = .returned (.bool false) ∧ Below w.heap.size w w' := by
  have e1 : decide ((j : Int) < temps) = false := decide_eq_false h5
  have e2 : decide (temps ≤ (j : Int)) = true := decide_eq_true (by omega)
  go_enter Try.func43, Try.ntmps43
  go_wp2
  go_ret
  exact ⟨ret_bool (by first | rfl | (simp [*]; done) | (simp; done) | (simp; omega)), by (repeat' (first | (with_reducible exact Below.refl _ _) | (with_reducible assumption) | (with_reducible refine below_drewN ?_ _) | (with_reducible refine Below.alloc ?_ ?_ _) | (with_reducible refine Below.drew ?_) | (with_reducible refine Below.setCell ?_ ?_ _) | go_size))⟩

set_option maxHeartbeats 8000000 in
set_option maxRecDepth 100000 in
theorem op2_8y (j b : Nat) (nl c n5 c5 : Nat) (p q : Option Addr) (sel : ByteArray) (args temps prim fields kd : Int) (w : World) (hj : j ≤ 255) (hb : b ≤ 255) (hc1 : nl ≤ c) (hc2 : c ≤ 9223372036854775807) (h5 : (j : Int) < fields) :
    Calls Try.prog 43 #[.agg #[.string sel, .int .i64 args, .int .i64 temps, .int .i64 prim, .slice p nl c, .slice q n5 c5], .agg #[.int .i64 8, .int .i64 (j : Int), .int .i64 (b : Int)], .int .i64 fields] w fun e w' => e = .returned (.bool true) ∧ Below w.heap.size w w' := by
  have e1 : decide ((j : Int) < fields) = true := decide_eq_true h5
  have e2 : decide (fields ≤ (j : Int)) = false := decide_eq_false (by omega)
  go_enter Try.func43, Try.ntmps43
  go_wp2
  go_ret
  exact ⟨ret_bool (by first | rfl | (simp [*]; done) | (simp; done) | (simp; omega)), by (repeat' (first | (with_reducible exact Below.refl _ _) | (with_reducible assumption) | (with_reducible refine below_drewN ?_ _) | (with_reducible refine Below.alloc ?_ ?_ _) | (with_reducible refine Below.drew ?_) | (with_reducible refine Below.setCell ?_ ?_ _) | go_size))⟩

set_option maxHeartbeats 8000000 in
set_option maxRecDepth 100000 in
theorem op2_8n (j b : Nat) (nl c n5 c5 : Nat) (p q : Option Addr) (sel : ByteArray) (args temps prim fields kd : Int) (w : World) (hj : j ≤ 255) (hb : b ≤ 255) (hc1 : nl ≤ c) (hc2 : c ≤ 9223372036854775807) (h5 : ¬ (j : Int) < fields) :
    Calls Try.prog 43 #[.agg #[.string sel, .int .i64 args, .int .i64 temps, .int .i64 prim, .slice p nl c, .slice q n5 c5], .agg #[.int .i64 8, .int .i64 (j : Int), .int .i64 (b : Int)], .int .i64 fields] w fun e w' => e = .returned (.bool false) ∧ Below w.heap.size w w' := by
  have e1 : decide ((j : Int) < fields) = false := decide_eq_false h5
  have e2 : decide (fields ≤ (j : Int)) = true := decide_eq_true (by omega)
  go_enter Try.func43, Try.ntmps43
  go_wp2
  go_ret
  exact ⟨ret_bool (by first | rfl | (simp [*]; done) | (simp; done) | (simp; omega)), by (repeat' (first | (with_reducible exact Below.refl _ _) | (with_reducible assumption) | (with_reducible refine below_drewN ?_ _) | (with_reducible refine Below.alloc ?_ ?_ _) | (with_reducible refine Below.drew ?_) | (with_reducible refine Below.setCell ?_ ?_ _) | go_size))⟩

set_option maxHeartbeats 8000000 in
set_option maxRecDepth 100000 in
theorem op2_11y (j b : Nat) (nl c n5 c5 : Nat) (p q : Option Addr) (sel : ByteArray) (args temps prim fields kd : Int) (w : World) (hj : j ≤ 255) (hb : b ≤ 255) (hc1 : nl ≤ c) (hc2 : c ≤ 9223372036854775807) (h5 : (j : Int) < fields) :
    Calls Try.prog 43 #[.agg #[.string sel, .int .i64 args, .int .i64 temps, .int .i64 prim, .slice p nl c, .slice q n5 c5], .agg #[.int .i64 11, .int .i64 (j : Int), .int .i64 (b : Int)], .int .i64 fields] w fun e w' => e = .returned (.bool true) ∧ Below w.heap.size w w' := by
  have e1 : decide ((j : Int) < fields) = true := decide_eq_true h5
  have e2 : decide (fields ≤ (j : Int)) = false := decide_eq_false (by omega)
  go_enter Try.func43, Try.ntmps43
  go_wp2
  go_ret
  exact ⟨ret_bool (by first | rfl | (simp [*]; done) | (simp; done) | (simp; omega)), by (repeat' (first | (with_reducible exact Below.refl _ _) | (with_reducible assumption) | (with_reducible refine below_drewN ?_ _) | (with_reducible refine Below.alloc ?_ ?_ _) | (with_reducible refine Below.drew ?_) | (with_reducible refine Below.setCell ?_ ?_ _) | go_size))⟩

set_option maxHeartbeats 8000000 in
set_option maxRecDepth 100000 in
theorem op2_11n (j b : Nat) (nl c n5 c5 : Nat) (p q : Option Addr) (sel : ByteArray) (args temps prim fields kd : Int) (w : World) (hj : j ≤ 255) (hb : b ≤ 255) (hc1 : nl ≤ c) (hc2 : c ≤ 9223372036854775807) (h5 : ¬ (j : Int) < fields) :
    Calls Try.prog 43 #[.agg #[.string sel, .int .i64 args, .int .i64 temps, .int .i64 prim, .slice p nl c, .slice q n5 c5], .agg #[.int .i64 11, .int .i64 (j : Int), .int .i64 (b : Int)], .int .i64 fields] w fun e w' => e = .returned (.bool false) ∧ Below w.heap.size w w' := by
  have e1 : decide ((j : Int) < fields) = false := decide_eq_false h5
  have e2 : decide (fields ≤ (j : Int)) = true := decide_eq_true (by omega)
  go_enter Try.func43, Try.ntmps43
  go_wp2
  go_ret
  exact ⟨ret_bool (by first | rfl | (simp [*]; done) | (simp; done) | (simp; omega)), by (repeat' (first | (with_reducible exact Below.refl _ _) | (with_reducible assumption) | (with_reducible refine below_drewN ?_ _) | (with_reducible refine Below.alloc ?_ ?_ _) | (with_reducible refine Below.drew ?_) | (with_reducible refine Below.setCell ?_ ?_ _) | go_size))⟩

set_option maxHeartbeats 8000000 in
set_option maxRecDepth 100000 in
theorem op2_18y (j b : Nat) (nl c n5 c5 : Nat) (p q : Option Addr) (sel : ByteArray) (args temps prim fields kd : Int) (w : World) (hj : j ≤ 255) (hb : b ≤ 255) (hc1 : nl ≤ c) (hc2 : c ≤ 9223372036854775807) (h4 : b ≤ 4) :
    Calls Try.prog 43 #[.agg #[.string sel, .int .i64 args, .int .i64 temps, .int .i64 prim, .slice p nl c, .slice q n5 c5], .agg #[.int .i64 18, .int .i64 (j : Int), .int .i64 (b : Int)], .int .i64 fields] w fun e w' => e = .returned (.bool (decide ((j : Int) + (b : Int) ≤ temps))) ∧ Below w.heap.size w w' := by
  have b1 : decide (b ≤ 4) = true := decide_eq_true h4
  have b2 : decide ((b : Int) ≤ 4) = true := decide_eq_true (by omega)
  have b3 : decide (4 < (b : Int)) = false := decide_eq_false (by omega)
  go_enter Try.func43, Try.ntmps43
  go_wp2
  go_ret
  exact ⟨ret_bool (by first | rfl | (simp [*]; done) | (simp; done) | (simp; omega)), by (repeat' (first | (with_reducible exact Below.refl _ _) | (with_reducible assumption) | (with_reducible refine below_drewN ?_ _) | (with_reducible refine Below.alloc ?_ ?_ _) | (with_reducible refine Below.drew ?_) | (with_reducible refine Below.setCell ?_ ?_ _) | go_size))⟩

set_option maxHeartbeats 8000000 in
set_option maxRecDepth 100000 in
theorem op2_18n (j b : Nat) (nl c n5 c5 : Nat) (p q : Option Addr) (sel : ByteArray) (args temps prim fields kd : Int) (w : World) (hj : j ≤ 255) (hb : b ≤ 255) (hc1 : nl ≤ c) (hc2 : c ≤ 9223372036854775807) (h4 : ¬ b ≤ 4) :
    Calls Try.prog 43 #[.agg #[.string sel, .int .i64 args, .int .i64 temps, .int .i64 prim, .slice p nl c, .slice q n5 c5], .agg #[.int .i64 18, .int .i64 (j : Int), .int .i64 (b : Int)], .int .i64 fields] w fun e w' => e = .returned (.bool false) ∧ Below w.heap.size w w' := by
  have b1 : decide (b ≤ 4) = false := decide_eq_false h4
  have b2 : decide ((b : Int) ≤ 4) = false := decide_eq_false (by omega)
  have b3 : decide (4 < (b : Int)) = true := decide_eq_true (by omega)
  go_enter Try.func43, Try.ntmps43
  go_wp2
  go_ret
  exact ⟨ret_bool (by first | rfl | (simp [*]; done) | (simp; done) | (simp; omega)), by (repeat' (first | (with_reducible exact Below.refl _ _) | (with_reducible assumption) | (with_reducible refine below_drewN ?_ _) | (with_reducible refine Below.alloc ?_ ?_ _) | (with_reducible refine Below.drew ?_) | (with_reducible refine Below.setCell ?_ ?_ _) | go_size))⟩

set_option maxHeartbeats 8000000 in
set_option maxRecDepth 100000 in
theorem op2_op (op : Int) (j b : Nat) (nl c n5 c5 : Nat) (p q : Option Addr) (sel : ByteArray) (args temps prim fields kd : Int) (w : World) (hj : j ≤ 255) (hb : b ≤ 255) (hc1 : nl ≤ c) (hc2 : c ≤ 9223372036854775807) (ho : op ≠ 6 ∧ op ≠ 9 ∧ op ≠ 14 ∧ op ≠ 15 ∧ op ≠ 7 ∧ op ≠ 10 ∧ op ≠ 8 ∧ op ≠ 11 ∧ op ≠ 18) :
    Calls Try.prog 43 #[.agg #[.string sel, .int .i64 args, .int .i64 temps, .int .i64 prim, .slice p nl c, .slice q n5 c5], .agg #[.int .i64 op, .int .i64 (j : Int), .int .i64 (b : Int)], .int .i64 fields] w fun e w' => e = .returned (.bool true) ∧ Below w.heap.size w w' := by
  have o6 : (op == 6) = false := by simp; omega
  have o9 : (op == 9) = false := by simp; omega
  have o14 : (op == 14) = false := by simp; omega
  have o15 : (op == 15) = false := by simp; omega
  have o7 : (op == 7) = false := by simp; omega
  have o10 : (op == 10) = false := by simp; omega
  have o8 : (op == 8) = false := by simp; omega
  have o11 : (op == 11) = false := by simp; omega
  have o18 : (op == 18) = false := by simp; omega
  have q6 : (op != 6) = true := by simp; omega
  have q18 : (op != 18) = true := by simp; omega
  go_enter Try.func43, Try.ntmps43
  go_wp2
  go_ret
  exact ⟨ret_bool (by first | rfl | (simp [*]; done) | (simp; done) | (simp; omega)), by (repeat' (first | (with_reducible exact Below.refl _ _) | (with_reducible assumption) | (with_reducible refine below_drewN ?_ _) | (with_reducible refine Below.alloc ?_ ?_ _) | (with_reducible refine Below.drew ?_) | (with_reducible refine Below.setCell ?_ ?_ _) | go_size))⟩
end Go.Proofs.Ytnjfjebmkajpbaa

/- Contracts: the reference's plain, where the head is wrong. -/
import Derived.Test.YtnjfjebmkajpbaaK4
namespace Go.Proofs.Ytnjfjebmkajpbaa
open Go.ChangeShapes Go.WideShapes Go.ChangeAt Go.RowKit
set_option linter.unusedVariables false
set_option linter.unusedSimpArgs false

set_option maxHeartbeats 16000000 in
set_option maxRecDepth 100000 in
theorem plain_bad0 (w : World) (n5 c c5 : Nat) (p q : Option Addr) (sel : ByteArray) (args temps prim fields : Int) (ts : List LitT) (hc1 : ts.length ≤ c) (hc2 : c ≤ 9223372036854775807) (hc3 : n5 ≤ c5) (hc4 : c5 ≤ 9223372036854775807) (hs : sel.size ≤ 9223372036854775807) (x0 : fields < (0 : Int)) :
    Calls Try.prog 25 #[.agg #[.string sel, .int .i64 args, .int .i64 temps, .int .i64 prim, .slice p ts.length c, .slice q n5 c5], .int .i64 fields] w fun e w' => e = .returned (.bool false) ∧ Below w.heap.size w w' := by
  have p0i : fields < (0 : Int) := by omega
  have d0i : decide (fields < (0 : Int)) = true := decide_eq_true p0i
  clear x0
  go_enter Try.func25, Try.ntmps25
  go_wp2
  go_ret
  exact ⟨rfl, by (repeat' (first | (with_reducible exact Below.refl _ _) | (with_reducible assumption) | (with_reducible refine below_drewN ?_ _) | (with_reducible refine Below.alloc ?_ ?_ _) | (with_reducible refine Below.drew ?_) | (with_reducible refine Below.setCell ?_ ?_ _) | go_size))⟩

set_option maxHeartbeats 16000000 in
set_option maxRecDepth 100000 in
theorem plain_bad1 (w : World) (n5 c c5 : Nat) (p q : Option Addr) (sel : ByteArray) (args temps prim fields : Int) (ts : List LitT) (hc1 : ts.length ≤ c) (hc2 : c ≤ 9223372036854775807) (hc3 : n5 ≤ c5) (hc4 : c5 ≤ 9223372036854775807) (hs : sel.size ≤ 9223372036854775807) (x0 : ¬ fields < (0 : Int)) (x1 : (8 : Int) < fields) :
    Calls Try.prog 25 #[.agg #[.string sel, .int .i64 args, .int .i64 temps, .int .i64 prim, .slice p ts.length c, .slice q n5 c5], .int .i64 fields] w fun e w' => e = .returned (.bool false) ∧ Below w.heap.size w w' := by
  have p0i : ¬ fields < (0 : Int) := by omega
  have d0i : decide (fields < (0 : Int)) = false := decide_eq_false p0i
  have p1i : (8 : Int) < fields := by omega
  have d1i : decide ((8 : Int) < fields) = true := decide_eq_true p1i
  clear x0 x1
  go_enter Try.func25, Try.ntmps25
  go_wp2
  go_ret
  exact ⟨rfl, by (repeat' (first | (with_reducible exact Below.refl _ _) | (with_reducible assumption) | (with_reducible refine below_drewN ?_ _) | (with_reducible refine Below.alloc ?_ ?_ _) | (with_reducible refine Below.drew ?_) | (with_reducible refine Below.setCell ?_ ?_ _) | go_size))⟩

set_option maxHeartbeats 16000000 in
set_option maxRecDepth 100000 in
theorem plain_bad2 (w : World) (n5 c c5 : Nat) (p q : Option Addr) (sel : ByteArray) (args temps prim fields : Int) (ts : List LitT) (hc1 : ts.length ≤ c) (hc2 : c ≤ 9223372036854775807) (hc3 : n5 ≤ c5) (hc4 : c5 ≤ 9223372036854775807) (hs : sel.size ≤ 9223372036854775807) (x0 : ¬ fields < (0 : Int)) (x1 : ¬ (8 : Int) < fields) (x2 : (sel.size : Int) < (1 : Int)) :
    Calls Try.prog 25 #[.agg #[.string sel, .int .i64 args, .int .i64 temps, .int .i64 prim, .slice p ts.length c, .slice q n5 c5], .int .i64 fields] w fun e w' => e = .returned (.bool false) ∧ Below w.heap.size w w' := by
  have p0i : ¬ fields < (0 : Int) := by omega
  have d0i : decide (fields < (0 : Int)) = false := decide_eq_false p0i
  have p1i : ¬ (8 : Int) < fields := by omega
  have d1i : decide ((8 : Int) < fields) = false := decide_eq_false p1i
  have p2i : (sel.size : Int) < (1 : Int) := by omega
  have d2i : decide ((sel.size : Int) < (1 : Int)) = true := decide_eq_true p2i
  have p2n : sel.size < 1 := by omega
  have d2n : decide (sel.size < 1) = true := decide_eq_true p2n
  clear x0 x1 x2
  go_enter Try.func25, Try.ntmps25
  go_wp2
  go_ret
  exact ⟨rfl, by (repeat' (first | (with_reducible exact Below.refl _ _) | (with_reducible assumption) | (with_reducible refine below_drewN ?_ _) | (with_reducible refine Below.alloc ?_ ?_ _) | (with_reducible refine Below.drew ?_) | (with_reducible refine Below.setCell ?_ ?_ _) | go_size))⟩

set_option maxHeartbeats 16000000 in
set_option maxRecDepth 100000 in
theorem plain_bad3 (w : World) (n5 c c5 : Nat) (p q : Option Addr) (sel : ByteArray) (args temps prim fields : Int) (ts : List LitT) (hc1 : ts.length ≤ c) (hc2 : c ≤ 9223372036854775807) (hc3 : n5 ≤ c5) (hc4 : c5 ≤ 9223372036854775807) (hs : sel.size ≤ 9223372036854775807) (x0 : ¬ fields < (0 : Int)) (x1 : ¬ (8 : Int) < fields) (x2 : ¬ (sel.size : Int) < (1 : Int)) (x3 : (60 : Int) < (sel.size : Int)) :
    Calls Try.prog 25 #[.agg #[.string sel, .int .i64 args, .int .i64 temps, .int .i64 prim, .slice p ts.length c, .slice q n5 c5], .int .i64 fields] w fun e w' => e = .returned (.bool false) ∧ Below w.heap.size w w' := by
  have p0i : ¬ fields < (0 : Int) := by omega
  have d0i : decide (fields < (0 : Int)) = false := decide_eq_false p0i
  have p1i : ¬ (8 : Int) < fields := by omega
  have d1i : decide ((8 : Int) < fields) = false := decide_eq_false p1i
  have p2i : ¬ (sel.size : Int) < (1 : Int) := by omega
  have d2i : decide ((sel.size : Int) < (1 : Int)) = false := decide_eq_false p2i
  have p2n : ¬ sel.size < 1 := by omega
  have d2n : decide (sel.size < 1) = false := decide_eq_false p2n
  have p3i : (60 : Int) < (sel.size : Int) := by omega
  have d3i : decide ((60 : Int) < (sel.size : Int)) = true := decide_eq_true p3i
  have p3n : 60 < sel.size := by omega
  have d3n : decide (60 < sel.size) = true := decide_eq_true p3n
  clear x0 x1 x2 x3
  go_enter Try.func25, Try.ntmps25
  go_wp2
  go_ret
  exact ⟨rfl, by (repeat' (first | (with_reducible exact Below.refl _ _) | (with_reducible assumption) | (with_reducible refine below_drewN ?_ _) | (with_reducible refine Below.alloc ?_ ?_ _) | (with_reducible refine Below.drew ?_) | (with_reducible refine Below.setCell ?_ ?_ _) | go_size))⟩

set_option maxHeartbeats 16000000 in
set_option maxRecDepth 100000 in
theorem plain_bad4 (w : World) (n5 c c5 : Nat) (p q : Option Addr) (sel : ByteArray) (args temps prim fields : Int) (ts : List LitT) (hc1 : ts.length ≤ c) (hc2 : c ≤ 9223372036854775807) (hc3 : n5 ≤ c5) (hc4 : c5 ≤ 9223372036854775807) (hs : sel.size ≤ 9223372036854775807) (x0 : ¬ fields < (0 : Int)) (x1 : ¬ (8 : Int) < fields) (x2 : ¬ (sel.size : Int) < (1 : Int)) (x3 : ¬ (60 : Int) < (sel.size : Int)) (x4 : args < (0 : Int)) :
    Calls Try.prog 25 #[.agg #[.string sel, .int .i64 args, .int .i64 temps, .int .i64 prim, .slice p ts.length c, .slice q n5 c5], .int .i64 fields] w fun e w' => e = .returned (.bool false) ∧ Below w.heap.size w w' := by
  have p0i : ¬ fields < (0 : Int) := by omega
  have d0i : decide (fields < (0 : Int)) = false := decide_eq_false p0i
  have p1i : ¬ (8 : Int) < fields := by omega
  have d1i : decide ((8 : Int) < fields) = false := decide_eq_false p1i
  have p2i : ¬ (sel.size : Int) < (1 : Int) := by omega
  have d2i : decide ((sel.size : Int) < (1 : Int)) = false := decide_eq_false p2i
  have p2n : ¬ sel.size < 1 := by omega
  have d2n : decide (sel.size < 1) = false := decide_eq_false p2n
  have p3i : ¬ (60 : Int) < (sel.size : Int) := by omega
  have d3i : decide ((60 : Int) < (sel.size : Int)) = false := decide_eq_false p3i
  have p3n : ¬ 60 < sel.size := by omega
  have d3n : decide (60 < sel.size) = false := decide_eq_false p3n
  have p4i : args < (0 : Int) := by omega
  have d4i : decide (args < (0 : Int)) = true := decide_eq_true p4i
  clear x0 x1 x2 x3 x4
  go_enter Try.func25, Try.ntmps25
  go_wp2
  go_ret
  exact ⟨rfl, by (repeat' (first | (with_reducible exact Below.refl _ _) | (with_reducible assumption) | (with_reducible refine below_drewN ?_ _) | (with_reducible refine Below.alloc ?_ ?_ _) | (with_reducible refine Below.drew ?_) | (with_reducible refine Below.setCell ?_ ?_ _) | go_size))⟩

set_option maxHeartbeats 16000000 in
set_option maxRecDepth 100000 in
theorem plain_bad5 (w : World) (n5 c c5 : Nat) (p q : Option Addr) (sel : ByteArray) (args temps prim fields : Int) (ts : List LitT) (hc1 : ts.length ≤ c) (hc2 : c ≤ 9223372036854775807) (hc3 : n5 ≤ c5) (hc4 : c5 ≤ 9223372036854775807) (hs : sel.size ≤ 9223372036854775807) (x0 : ¬ fields < (0 : Int)) (x1 : ¬ (8 : Int) < fields) (x2 : ¬ (sel.size : Int) < (1 : Int)) (x3 : ¬ (60 : Int) < (sel.size : Int)) (x4 : ¬ args < (0 : Int)) (x5 : (4 : Int) < args) :
    Calls Try.prog 25 #[.agg #[.string sel, .int .i64 args, .int .i64 temps, .int .i64 prim, .slice p ts.length c, .slice q n5 c5], .int .i64 fields] w fun e w' => e = .returned (.bool false) ∧ Below w.heap.size w w' := by
  have p0i : ¬ fields < (0 : Int) := by omega
  have d0i : decide (fields < (0 : Int)) = false := decide_eq_false p0i
  have p1i : ¬ (8 : Int) < fields := by omega
  have d1i : decide ((8 : Int) < fields) = false := decide_eq_false p1i
  have p2i : ¬ (sel.size : Int) < (1 : Int) := by omega
  have d2i : decide ((sel.size : Int) < (1 : Int)) = false := decide_eq_false p2i
  have p2n : ¬ sel.size < 1 := by omega
  have d2n : decide (sel.size < 1) = false := decide_eq_false p2n
  have p3i : ¬ (60 : Int) < (sel.size : Int) := by omega
  have d3i : decide ((60 : Int) < (sel.size : Int)) = false := decide_eq_false p3i
  have p3n : ¬ 60 < sel.size := by omega
  have d3n : decide (60 < sel.size) = false := decide_eq_false p3n
  have p4i : ¬ args < (0 : Int) := by omega
  have d4i : decide (args < (0 : Int)) = false := decide_eq_false p4i
  have p5i : (4 : Int) < args := by omega
  have d5i : decide ((4 : Int) < args) = true := decide_eq_true p5i
  clear x0 x1 x2 x3 x4 x5
  go_enter Try.func25, Try.ntmps25
  go_wp2
  go_ret
  exact ⟨rfl, by (repeat' (first | (with_reducible exact Below.refl _ _) | (with_reducible assumption) | (with_reducible refine below_drewN ?_ _) | (with_reducible refine Below.alloc ?_ ?_ _) | (with_reducible refine Below.drew ?_) | (with_reducible refine Below.setCell ?_ ?_ _) | go_size))⟩

set_option maxHeartbeats 16000000 in
set_option maxRecDepth 100000 in
theorem plain_bad6 (w : World) (n5 c c5 : Nat) (p q : Option Addr) (sel : ByteArray) (args temps prim fields : Int) (ts : List LitT) (hc1 : ts.length ≤ c) (hc2 : c ≤ 9223372036854775807) (hc3 : n5 ≤ c5) (hc4 : c5 ≤ 9223372036854775807) (hs : sel.size ≤ 9223372036854775807) (x0 : ¬ fields < (0 : Int)) (x1 : ¬ (8 : Int) < fields) (x2 : ¬ (sel.size : Int) < (1 : Int)) (x3 : ¬ (60 : Int) < (sel.size : Int)) (x4 : ¬ args < (0 : Int)) (x5 : ¬ (4 : Int) < args) (x6 : temps < args) :
    Calls Try.prog 25 #[.agg #[.string sel, .int .i64 args, .int .i64 temps, .int .i64 prim, .slice p ts.length c, .slice q n5 c5], .int .i64 fields] w fun e w' => e = .returned (.bool false) ∧ Below w.heap.size w w' := by
  have p0i : ¬ fields < (0 : Int) := by omega
  have d0i : decide (fields < (0 : Int)) = false := decide_eq_false p0i
  have p1i : ¬ (8 : Int) < fields := by omega
  have d1i : decide ((8 : Int) < fields) = false := decide_eq_false p1i
  have p2i : ¬ (sel.size : Int) < (1 : Int) := by omega
  have d2i : decide ((sel.size : Int) < (1 : Int)) = false := decide_eq_false p2i
  have p2n : ¬ sel.size < 1 := by omega
  have d2n : decide (sel.size < 1) = false := decide_eq_false p2n
  have p3i : ¬ (60 : Int) < (sel.size : Int) := by omega
  have d3i : decide ((60 : Int) < (sel.size : Int)) = false := decide_eq_false p3i
  have p3n : ¬ 60 < sel.size := by omega
  have d3n : decide (60 < sel.size) = false := decide_eq_false p3n
  have p4i : ¬ args < (0 : Int) := by omega
  have d4i : decide (args < (0 : Int)) = false := decide_eq_false p4i
  have p5i : ¬ (4 : Int) < args := by omega
  have d5i : decide ((4 : Int) < args) = false := decide_eq_false p5i
  have p6i : temps < args := by omega
  have d6i : decide (temps < args) = true := decide_eq_true p6i
  clear x0 x1 x2 x3 x4 x5 x6
  go_enter Try.func25, Try.ntmps25
  go_wp2
  go_ret
  exact ⟨rfl, by (repeat' (first | (with_reducible exact Below.refl _ _) | (with_reducible assumption) | (with_reducible refine below_drewN ?_ _) | (with_reducible refine Below.alloc ?_ ?_ _) | (with_reducible refine Below.drew ?_) | (with_reducible refine Below.setCell ?_ ?_ _) | go_size))⟩

set_option maxHeartbeats 16000000 in
set_option maxRecDepth 100000 in
theorem plain_bad7 (w : World) (n5 c c5 : Nat) (p q : Option Addr) (sel : ByteArray) (args temps prim fields : Int) (ts : List LitT) (hc1 : ts.length ≤ c) (hc2 : c ≤ 9223372036854775807) (hc3 : n5 ≤ c5) (hc4 : c5 ≤ 9223372036854775807) (hs : sel.size ≤ 9223372036854775807) (x0 : ¬ fields < (0 : Int)) (x1 : ¬ (8 : Int) < fields) (x2 : ¬ (sel.size : Int) < (1 : Int)) (x3 : ¬ (60 : Int) < (sel.size : Int)) (x4 : ¬ args < (0 : Int)) (x5 : ¬ (4 : Int) < args) (x6 : ¬ temps < args) (x7 : (24 : Int) < temps) :
    Calls Try.prog 25 #[.agg #[.string sel, .int .i64 args, .int .i64 temps, .int .i64 prim, .slice p ts.length c, .slice q n5 c5], .int .i64 fields] w fun e w' => e = .returned (.bool false) ∧ Below w.heap.size w w' := by
  have p0i : ¬ fields < (0 : Int) := by omega
  have d0i : decide (fields < (0 : Int)) = false := decide_eq_false p0i
  have p1i : ¬ (8 : Int) < fields := by omega
  have d1i : decide ((8 : Int) < fields) = false := decide_eq_false p1i
  have p2i : ¬ (sel.size : Int) < (1 : Int) := by omega
  have d2i : decide ((sel.size : Int) < (1 : Int)) = false := decide_eq_false p2i
  have p2n : ¬ sel.size < 1 := by omega
  have d2n : decide (sel.size < 1) = false := decide_eq_false p2n
  have p3i : ¬ (60 : Int) < (sel.size : Int) := by omega
  have d3i : decide ((60 : Int) < (sel.size : Int)) = false := decide_eq_false p3i
  have p3n : ¬ 60 < sel.size := by omega
  have d3n : decide (60 < sel.size) = false := decide_eq_false p3n
  have p4i : ¬ args < (0 : Int) := by omega
  have d4i : decide (args < (0 : Int)) = false := decide_eq_false p4i
  have p5i : ¬ (4 : Int) < args := by omega
  have d5i : decide ((4 : Int) < args) = false := decide_eq_false p5i
  have p6i : ¬ temps < args := by omega
  have d6i : decide (temps < args) = false := decide_eq_false p6i
  have p7i : (24 : Int) < temps := by omega
  have d7i : decide ((24 : Int) < temps) = true := decide_eq_true p7i
  clear x0 x1 x2 x3 x4 x5 x6 x7
  go_enter Try.func25, Try.ntmps25
  go_wp2
  go_ret
  exact ⟨rfl, by (repeat' (first | (with_reducible exact Below.refl _ _) | (with_reducible assumption) | (with_reducible refine below_drewN ?_ _) | (with_reducible refine Below.alloc ?_ ?_ _) | (with_reducible refine Below.drew ?_) | (with_reducible refine Below.setCell ?_ ?_ _) | go_size))⟩

set_option maxHeartbeats 16000000 in
set_option maxRecDepth 100000 in
theorem plain_bad8 (w : World) (n5 c c5 : Nat) (p q : Option Addr) (sel : ByteArray) (args temps prim fields : Int) (ts : List LitT) (hc1 : ts.length ≤ c) (hc2 : c ≤ 9223372036854775807) (hc3 : n5 ≤ c5) (hc4 : c5 ≤ 9223372036854775807) (hs : sel.size ≤ 9223372036854775807) (x0 : ¬ fields < (0 : Int)) (x1 : ¬ (8 : Int) < fields) (x2 : ¬ (sel.size : Int) < (1 : Int)) (x3 : ¬ (60 : Int) < (sel.size : Int)) (x4 : ¬ args < (0 : Int)) (x5 : ¬ (4 : Int) < args) (x6 : ¬ temps < args) (x7 : ¬ (24 : Int) < temps) (x8 : prim < (0 : Int)) :
    Calls Try.prog 25 #[.agg #[.string sel, .int .i64 args, .int .i64 temps, .int .i64 prim, .slice p ts.length c, .slice q n5 c5], .int .i64 fields] w fun e w' => e = .returned (.bool false) ∧ Below w.heap.size w w' := by
  have p0i : ¬ fields < (0 : Int) := by omega
  have d0i : decide (fields < (0 : Int)) = false := decide_eq_false p0i
  have p1i : ¬ (8 : Int) < fields := by omega
  have d1i : decide ((8 : Int) < fields) = false := decide_eq_false p1i
  have p2i : ¬ (sel.size : Int) < (1 : Int) := by omega
  have d2i : decide ((sel.size : Int) < (1 : Int)) = false := decide_eq_false p2i
  have p2n : ¬ sel.size < 1 := by omega
  have d2n : decide (sel.size < 1) = false := decide_eq_false p2n
  have p3i : ¬ (60 : Int) < (sel.size : Int) := by omega
  have d3i : decide ((60 : Int) < (sel.size : Int)) = false := decide_eq_false p3i
  have p3n : ¬ 60 < sel.size := by omega
  have d3n : decide (60 < sel.size) = false := decide_eq_false p3n
  have p4i : ¬ args < (0 : Int) := by omega
  have d4i : decide (args < (0 : Int)) = false := decide_eq_false p4i
  have p5i : ¬ (4 : Int) < args := by omega
  have d5i : decide ((4 : Int) < args) = false := decide_eq_false p5i
  have p6i : ¬ temps < args := by omega
  have d6i : decide (temps < args) = false := decide_eq_false p6i
  have p7i : ¬ (24 : Int) < temps := by omega
  have d7i : decide ((24 : Int) < temps) = false := decide_eq_false p7i
  have p8i : prim < (0 : Int) := by omega
  have d8i : decide (prim < (0 : Int)) = true := decide_eq_true p8i
  clear x0 x1 x2 x3 x4 x5 x6 x7 x8
  go_enter Try.func25, Try.ntmps25
  go_wp2
  go_ret
  exact ⟨rfl, by (repeat' (first | (with_reducible exact Below.refl _ _) | (with_reducible assumption) | (with_reducible refine below_drewN ?_ _) | (with_reducible refine Below.alloc ?_ ?_ _) | (with_reducible refine Below.drew ?_) | (with_reducible refine Below.setCell ?_ ?_ _) | go_size))⟩

set_option maxHeartbeats 16000000 in
set_option maxRecDepth 100000 in
theorem plain_bad9 (w : World) (n5 c c5 : Nat) (p q : Option Addr) (sel : ByteArray) (args temps prim fields : Int) (ts : List LitT) (hc1 : ts.length ≤ c) (hc2 : c ≤ 9223372036854775807) (hc3 : n5 ≤ c5) (hc4 : c5 ≤ 9223372036854775807) (hs : sel.size ≤ 9223372036854775807) (x0 : ¬ fields < (0 : Int)) (x1 : ¬ (8 : Int) < fields) (x2 : ¬ (sel.size : Int) < (1 : Int)) (x3 : ¬ (60 : Int) < (sel.size : Int)) (x4 : ¬ args < (0 : Int)) (x5 : ¬ (4 : Int) < args) (x6 : ¬ temps < args) (x7 : ¬ (24 : Int) < temps) (x8 : ¬ prim < (0 : Int)) (x9 : (255 : Int) < prim) :
    Calls Try.prog 25 #[.agg #[.string sel, .int .i64 args, .int .i64 temps, .int .i64 prim, .slice p ts.length c, .slice q n5 c5], .int .i64 fields] w fun e w' => e = .returned (.bool false) ∧ Below w.heap.size w w' := by
  have p0i : ¬ fields < (0 : Int) := by omega
  have d0i : decide (fields < (0 : Int)) = false := decide_eq_false p0i
  have p1i : ¬ (8 : Int) < fields := by omega
  have d1i : decide ((8 : Int) < fields) = false := decide_eq_false p1i
  have p2i : ¬ (sel.size : Int) < (1 : Int) := by omega
  have d2i : decide ((sel.size : Int) < (1 : Int)) = false := decide_eq_false p2i
  have p2n : ¬ sel.size < 1 := by omega
  have d2n : decide (sel.size < 1) = false := decide_eq_false p2n
  have p3i : ¬ (60 : Int) < (sel.size : Int) := by omega
  have d3i : decide ((60 : Int) < (sel.size : Int)) = false := decide_eq_false p3i
  have p3n : ¬ 60 < sel.size := by omega
  have d3n : decide (60 < sel.size) = false := decide_eq_false p3n
  have p4i : ¬ args < (0 : Int) := by omega
  have d4i : decide (args < (0 : Int)) = false := decide_eq_false p4i
  have p5i : ¬ (4 : Int) < args := by omega
  have d5i : decide ((4 : Int) < args) = false := decide_eq_false p5i
  have p6i : ¬ temps < args := by omega
  have d6i : decide (temps < args) = false := decide_eq_false p6i
  have p7i : ¬ (24 : Int) < temps := by omega
  have d7i : decide ((24 : Int) < temps) = false := decide_eq_false p7i
  have p8i : ¬ prim < (0 : Int) := by omega
  have d8i : decide (prim < (0 : Int)) = false := decide_eq_false p8i
  have p9i : (255 : Int) < prim := by omega
  have d9i : decide ((255 : Int) < prim) = true := decide_eq_true p9i
  clear x0 x1 x2 x3 x4 x5 x6 x7 x8 x9
  go_enter Try.func25, Try.ntmps25
  go_wp2
  go_ret
  exact ⟨rfl, by (repeat' (first | (with_reducible exact Below.refl _ _) | (with_reducible assumption) | (with_reducible refine below_drewN ?_ _) | (with_reducible refine Below.alloc ?_ ?_ _) | (with_reducible refine Below.drew ?_) | (with_reducible refine Below.setCell ?_ ?_ _) | go_size))⟩

set_option maxHeartbeats 16000000 in
set_option maxRecDepth 100000 in
theorem plain_bad10 (w : World) (n5 c c5 : Nat) (p q : Option Addr) (sel : ByteArray) (args temps prim fields : Int) (ts : List LitT) (hc1 : ts.length ≤ c) (hc2 : c ≤ 9223372036854775807) (hc3 : n5 ≤ c5) (hc4 : c5 ≤ 9223372036854775807) (hs : sel.size ≤ 9223372036854775807) (x0 : ¬ fields < (0 : Int)) (x1 : ¬ (8 : Int) < fields) (x2 : ¬ (sel.size : Int) < (1 : Int)) (x3 : ¬ (60 : Int) < (sel.size : Int)) (x4 : ¬ args < (0 : Int)) (x5 : ¬ (4 : Int) < args) (x6 : ¬ temps < args) (x7 : ¬ (24 : Int) < temps) (x8 : ¬ prim < (0 : Int)) (x9 : ¬ (255 : Int) < prim) (x10 : (60 : Int) < (ts.length : Int)) :
    Calls Try.prog 25 #[.agg #[.string sel, .int .i64 args, .int .i64 temps, .int .i64 prim, .slice p ts.length c, .slice q n5 c5], .int .i64 fields] w fun e w' => e = .returned (.bool false) ∧ Below w.heap.size w w' := by
  have p0i : ¬ fields < (0 : Int) := by omega
  have d0i : decide (fields < (0 : Int)) = false := decide_eq_false p0i
  have p1i : ¬ (8 : Int) < fields := by omega
  have d1i : decide ((8 : Int) < fields) = false := decide_eq_false p1i
  have p2i : ¬ (sel.size : Int) < (1 : Int) := by omega
  have d2i : decide ((sel.size : Int) < (1 : Int)) = false := decide_eq_false p2i
  have p2n : ¬ sel.size < 1 := by omega
  have d2n : decide (sel.size < 1) = false := decide_eq_false p2n
  have p3i : ¬ (60 : Int) < (sel.size : Int) := by omega
  have d3i : decide ((60 : Int) < (sel.size : Int)) = false := decide_eq_false p3i
  have p3n : ¬ 60 < sel.size := by omega
  have d3n : decide (60 < sel.size) = false := decide_eq_false p3n
  have p4i : ¬ args < (0 : Int) := by omega
  have d4i : decide (args < (0 : Int)) = false := decide_eq_false p4i
  have p5i : ¬ (4 : Int) < args := by omega
  have d5i : decide ((4 : Int) < args) = false := decide_eq_false p5i
  have p6i : ¬ temps < args := by omega
  have d6i : decide (temps < args) = false := decide_eq_false p6i
  have p7i : ¬ (24 : Int) < temps := by omega
  have d7i : decide ((24 : Int) < temps) = false := decide_eq_false p7i
  have p8i : ¬ prim < (0 : Int) := by omega
  have d8i : decide (prim < (0 : Int)) = false := decide_eq_false p8i
  have p9i : ¬ (255 : Int) < prim := by omega
  have d9i : decide ((255 : Int) < prim) = false := decide_eq_false p9i
  have p10i : (60 : Int) < (ts.length : Int) := by omega
  have d10i : decide ((60 : Int) < (ts.length : Int)) = true := decide_eq_true p10i
  have p10n : 60 < ts.length := by omega
  have d10n : decide (60 < ts.length) = true := decide_eq_true p10n
  clear x0 x1 x2 x3 x4 x5 x6 x7 x8 x9 x10
  go_enter Try.func25, Try.ntmps25
  go_wp2
  go_ret
  exact ⟨rfl, by (repeat' (first | (with_reducible exact Below.refl _ _) | (with_reducible assumption) | (with_reducible refine below_drewN ?_ _) | (with_reducible refine Below.alloc ?_ ?_ _) | (with_reducible refine Below.drew ?_) | (with_reducible refine Below.setCell ?_ ?_ _) | go_size))⟩

set_option maxHeartbeats 16000000 in
set_option maxRecDepth 100000 in
theorem plain_bad11 (w : World) (n5 c c5 : Nat) (p q : Option Addr) (sel : ByteArray) (args temps prim fields : Int) (ts : List LitT) (hc1 : ts.length ≤ c) (hc2 : c ≤ 9223372036854775807) (hc3 : n5 ≤ c5) (hc4 : c5 ≤ 9223372036854775807) (hs : sel.size ≤ 9223372036854775807) (x0 : ¬ fields < (0 : Int)) (x1 : ¬ (8 : Int) < fields) (x2 : ¬ (sel.size : Int) < (1 : Int)) (x3 : ¬ (60 : Int) < (sel.size : Int)) (x4 : ¬ args < (0 : Int)) (x5 : ¬ (4 : Int) < args) (x6 : ¬ temps < args) (x7 : ¬ (24 : Int) < temps) (x8 : ¬ prim < (0 : Int)) (x9 : ¬ (255 : Int) < prim) (x10 : ¬ (60 : Int) < (ts.length : Int)) (x11 : (n5 : Int) < (1 : Int)) :
    Calls Try.prog 25 #[.agg #[.string sel, .int .i64 args, .int .i64 temps, .int .i64 prim, .slice p ts.length c, .slice q n5 c5], .int .i64 fields] w fun e w' => e = .returned (.bool false) ∧ Below w.heap.size w w' := by
  have p0i : ¬ fields < (0 : Int) := by omega
  have d0i : decide (fields < (0 : Int)) = false := decide_eq_false p0i
  have p1i : ¬ (8 : Int) < fields := by omega
  have d1i : decide ((8 : Int) < fields) = false := decide_eq_false p1i
  have p2i : ¬ (sel.size : Int) < (1 : Int) := by omega
  have d2i : decide ((sel.size : Int) < (1 : Int)) = false := decide_eq_false p2i
  have p2n : ¬ sel.size < 1 := by omega
  have d2n : decide (sel.size < 1) = false := decide_eq_false p2n
  have p3i : ¬ (60 : Int) < (sel.size : Int) := by omega
  have d3i : decide ((60 : Int) < (sel.size : Int)) = false := decide_eq_false p3i
  have p3n : ¬ 60 < sel.size := by omega
  have d3n : decide (60 < sel.size) = false := decide_eq_false p3n
  have p4i : ¬ args < (0 : Int) := by omega
  have d4i : decide (args < (0 : Int)) = false := decide_eq_false p4i
  have p5i : ¬ (4 : Int) < args := by omega
  have d5i : decide ((4 : Int) < args) = false := decide_eq_false p5i
  have p6i : ¬ temps < args := by omega
  have d6i : decide (temps < args) = false := decide_eq_false p6i
  have p7i : ¬ (24 : Int) < temps := by omega
  have d7i : decide ((24 : Int) < temps) = false := decide_eq_false p7i
  have p8i : ¬ prim < (0 : Int) := by omega
  have d8i : decide (prim < (0 : Int)) = false := decide_eq_false p8i
  have p9i : ¬ (255 : Int) < prim := by omega
  have d9i : decide ((255 : Int) < prim) = false := decide_eq_false p9i
  have p10i : ¬ (60 : Int) < (ts.length : Int) := by omega
  have d10i : decide ((60 : Int) < (ts.length : Int)) = false := decide_eq_false p10i
  have p10n : ¬ 60 < ts.length := by omega
  have d10n : decide (60 < ts.length) = false := decide_eq_false p10n
  have p11i : (n5 : Int) < (1 : Int) := by omega
  have d11i : decide ((n5 : Int) < (1 : Int)) = true := decide_eq_true p11i
  have p11n : n5 < 1 := by omega
  have d11n : decide (n5 < 1) = true := decide_eq_true p11n
  clear x0 x1 x2 x3 x4 x5 x6 x7 x8 x9 x10 x11
  go_enter Try.func25, Try.ntmps25
  go_wp2
  go_ret
  exact ⟨rfl, by (repeat' (first | (with_reducible exact Below.refl _ _) | (with_reducible assumption) | (with_reducible refine below_drewN ?_ _) | (with_reducible refine Below.alloc ?_ ?_ _) | (with_reducible refine Below.drew ?_) | (with_reducible refine Below.setCell ?_ ?_ _) | go_size))⟩

set_option maxHeartbeats 16000000 in
set_option maxRecDepth 100000 in
theorem plain_bad12 (w : World) (n5 c c5 : Nat) (p q : Option Addr) (sel : ByteArray) (args temps prim fields : Int) (ts : List LitT) (hc1 : ts.length ≤ c) (hc2 : c ≤ 9223372036854775807) (hc3 : n5 ≤ c5) (hc4 : c5 ≤ 9223372036854775807) (hs : sel.size ≤ 9223372036854775807) (x0 : ¬ fields < (0 : Int)) (x1 : ¬ (8 : Int) < fields) (x2 : ¬ (sel.size : Int) < (1 : Int)) (x3 : ¬ (60 : Int) < (sel.size : Int)) (x4 : ¬ args < (0 : Int)) (x5 : ¬ (4 : Int) < args) (x6 : ¬ temps < args) (x7 : ¬ (24 : Int) < temps) (x8 : ¬ prim < (0 : Int)) (x9 : ¬ (255 : Int) < prim) (x10 : ¬ (60 : Int) < (ts.length : Int)) (x11 : ¬ (n5 : Int) < (1 : Int)) (x12 : (400 : Int) < (n5 : Int)) :
    Calls Try.prog 25 #[.agg #[.string sel, .int .i64 args, .int .i64 temps, .int .i64 prim, .slice p ts.length c, .slice q n5 c5], .int .i64 fields] w fun e w' => e = .returned (.bool false) ∧ Below w.heap.size w w' := by
  have p0i : ¬ fields < (0 : Int) := by omega
  have d0i : decide (fields < (0 : Int)) = false := decide_eq_false p0i
  have p1i : ¬ (8 : Int) < fields := by omega
  have d1i : decide ((8 : Int) < fields) = false := decide_eq_false p1i
  have p2i : ¬ (sel.size : Int) < (1 : Int) := by omega
  have d2i : decide ((sel.size : Int) < (1 : Int)) = false := decide_eq_false p2i
  have p2n : ¬ sel.size < 1 := by omega
  have d2n : decide (sel.size < 1) = false := decide_eq_false p2n
  have p3i : ¬ (60 : Int) < (sel.size : Int) := by omega
  have d3i : decide ((60 : Int) < (sel.size : Int)) = false := decide_eq_false p3i
  have p3n : ¬ 60 < sel.size := by omega
  have d3n : decide (60 < sel.size) = false := decide_eq_false p3n
  have p4i : ¬ args < (0 : Int) := by omega
  have d4i : decide (args < (0 : Int)) = false := decide_eq_false p4i
  have p5i : ¬ (4 : Int) < args := by omega
  have d5i : decide ((4 : Int) < args) = false := decide_eq_false p5i
  have p6i : ¬ temps < args := by omega
  have d6i : decide (temps < args) = false := decide_eq_false p6i
  have p7i : ¬ (24 : Int) < temps := by omega
  have d7i : decide ((24 : Int) < temps) = false := decide_eq_false p7i
  have p8i : ¬ prim < (0 : Int) := by omega
  have d8i : decide (prim < (0 : Int)) = false := decide_eq_false p8i
  have p9i : ¬ (255 : Int) < prim := by omega
  have d9i : decide ((255 : Int) < prim) = false := decide_eq_false p9i
  have p10i : ¬ (60 : Int) < (ts.length : Int) := by omega
  have d10i : decide ((60 : Int) < (ts.length : Int)) = false := decide_eq_false p10i
  have p10n : ¬ 60 < ts.length := by omega
  have d10n : decide (60 < ts.length) = false := decide_eq_false p10n
  have p11i : ¬ (n5 : Int) < (1 : Int) := by omega
  have d11i : decide ((n5 : Int) < (1 : Int)) = false := decide_eq_false p11i
  have p11n : ¬ n5 < 1 := by omega
  have d11n : decide (n5 < 1) = false := decide_eq_false p11n
  have p12i : (400 : Int) < (n5 : Int) := by omega
  have d12i : decide ((400 : Int) < (n5 : Int)) = true := decide_eq_true p12i
  have p12n : 400 < n5 := by omega
  have d12n : decide (400 < n5) = true := decide_eq_true p12n
  clear x0 x1 x2 x3 x4 x5 x6 x7 x8 x9 x10 x11 x12
  go_enter Try.func25, Try.ntmps25
  go_wp2
  go_ret
  exact ⟨rfl, by (repeat' (first | (with_reducible exact Below.refl _ _) | (with_reducible assumption) | (with_reducible refine below_drewN ?_ _) | (with_reducible refine Below.alloc ?_ ?_ _) | (with_reducible refine Below.drew ?_) | (with_reducible refine Below.setCell ?_ ?_ _) | go_size))⟩
end Go.Proofs.Ytnjfjebmkajpbaa

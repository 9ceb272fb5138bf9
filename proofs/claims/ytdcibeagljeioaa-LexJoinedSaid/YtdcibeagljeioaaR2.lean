/- Chapter 06: contracts of the reference: what a byte is, to its end. -/
import Derived.Test.YtdcibeagljeioaaR1
import Derived.LoopN
namespace Go.Proofs.Ytdcibeagljeioaa
open Go.ChangeShapes Go.WideShapes Go.ChangeAt Go.RowKit
set_option linter.unusedVariables false
set_option linter.unusedSimpArgs false

set_option maxRecDepth 100000 in
set_option maxHeartbeats 8000000 in
theorem kind_b9 (w : World) : Calls Try.prog 20 #[.int .u8 9] w fun e w' => e = .returned (.int .i64 5) ∧ w' = w := by
  go_enter Try.func20, Try.ntmps20
  go_wp2
  go_ret
  exact ⟨rfl, rfl⟩
set_option maxRecDepth 100000 in
set_option maxHeartbeats 8000000 in
theorem kind_b10 (w : World) : Calls Try.prog 20 #[.int .u8 10] w fun e w' => e = .returned (.int .i64 5) ∧ w' = w := by
  go_enter Try.func20, Try.ntmps20
  go_wp2
  go_ret
  exact ⟨rfl, rfl⟩
set_option maxRecDepth 100000 in
set_option maxHeartbeats 8000000 in
theorem kind_b13 (w : World) : Calls Try.prog 20 #[.int .u8 13] w fun e w' => e = .returned (.int .i64 5) ∧ w' = w := by
  go_enter Try.func20, Try.ntmps20
  go_wp2
  go_ret
  exact ⟨rfl, rfl⟩
set_option maxRecDepth 100000 in
set_option maxHeartbeats 8000000 in
theorem kind_b32 (w : World) : Calls Try.prog 20 #[.int .u8 32] w fun e w' => e = .returned (.int .i64 5) ∧ w' = w := by
  go_enter Try.func20, Try.ntmps20
  go_wp2
  go_ret
  exact ⟨rfl, rfl⟩
set_option maxRecDepth 100000 in
set_option maxHeartbeats 8000000 in
theorem kind_s43 (w : World) : Calls Try.prog 20 #[.int .u8 43] w fun e w' => e = .returned (.int .i64 3) ∧ w' = w := by
  go_enter Try.func20, Try.ntmps20
  go_wp2
  go_rounds 13
  go_ret
  exact ⟨rfl, rfl⟩
set_option maxRecDepth 100000 in
set_option maxHeartbeats 8000000 in
theorem kind_s45 (w : World) : Calls Try.prog 20 #[.int .u8 45] w fun e w' => e = .returned (.int .i64 3) ∧ w' = w := by
  go_enter Try.func20, Try.ntmps20
  go_wp2
  go_rounds 13
  go_ret
  exact ⟨rfl, rfl⟩
set_option maxRecDepth 100000 in
set_option maxHeartbeats 8000000 in
theorem kind_s42 (w : World) : Calls Try.prog 20 #[.int .u8 42] w fun e w' => e = .returned (.int .i64 3) ∧ w' = w := by
  go_enter Try.func20, Try.ntmps20
  go_wp2
  go_rounds 13
  go_ret
  exact ⟨rfl, rfl⟩
set_option maxRecDepth 100000 in
set_option maxHeartbeats 8000000 in
theorem kind_s47 (w : World) : Calls Try.prog 20 #[.int .u8 47] w fun e w' => e = .returned (.int .i64 3) ∧ w' = w := by
  go_enter Try.func20, Try.ntmps20
  go_wp2
  go_rounds 13
  go_ret
  exact ⟨rfl, rfl⟩
set_option maxRecDepth 100000 in
set_option maxHeartbeats 8000000 in
theorem kind_s60 (w : World) : Calls Try.prog 20 #[.int .u8 60] w fun e w' => e = .returned (.int .i64 3) ∧ w' = w := by
  go_enter Try.func20, Try.ntmps20
  go_wp2
  go_rounds 13
  go_ret
  exact ⟨rfl, rfl⟩
set_option maxRecDepth 100000 in
set_option maxHeartbeats 8000000 in
theorem kind_s62 (w : World) : Calls Try.prog 20 #[.int .u8 62] w fun e w' => e = .returned (.int .i64 3) ∧ w' = w := by
  go_enter Try.func20, Try.ntmps20
  go_wp2
  go_rounds 13
  go_ret
  exact ⟨rfl, rfl⟩
set_option maxRecDepth 100000 in
set_option maxHeartbeats 8000000 in
theorem kind_s61 (w : World) : Calls Try.prog 20 #[.int .u8 61] w fun e w' => e = .returned (.int .i64 3) ∧ w' = w := by
  go_enter Try.func20, Try.ntmps20
  go_wp2
  go_rounds 13
  go_ret
  exact ⟨rfl, rfl⟩
set_option maxRecDepth 100000 in
set_option maxHeartbeats 8000000 in
theorem kind_s126 (w : World) : Calls Try.prog 20 #[.int .u8 126] w fun e w' => e = .returned (.int .i64 3) ∧ w' = w := by
  go_enter Try.func20, Try.ntmps20
  go_wp2
  go_rounds 13
  go_ret
  exact ⟨rfl, rfl⟩
set_option maxRecDepth 100000 in
set_option maxHeartbeats 8000000 in
theorem kind_s44 (w : World) : Calls Try.prog 20 #[.int .u8 44] w fun e w' => e = .returned (.int .i64 3) ∧ w' = w := by
  go_enter Try.func20, Try.ntmps20
  go_wp2
  go_rounds 13
  go_ret
  exact ⟨rfl, rfl⟩
set_option maxRecDepth 100000 in
set_option maxHeartbeats 8000000 in
theorem kind_s64 (w : World) : Calls Try.prog 20 #[.int .u8 64] w fun e w' => e = .returned (.int .i64 3) ∧ w' = w := by
  go_enter Try.func20, Try.ntmps20
  go_wp2
  go_rounds 13
  go_ret
  exact ⟨rfl, rfl⟩
set_option maxRecDepth 100000 in
set_option maxHeartbeats 8000000 in
theorem kind_s38 (w : World) : Calls Try.prog 20 #[.int .u8 38] w fun e w' => e = .returned (.int .i64 3) ∧ w' = w := by
  go_enter Try.func20, Try.ntmps20
  go_wp2
  go_rounds 13
  go_ret
  exact ⟨rfl, rfl⟩
set_option maxRecDepth 100000 in
set_option maxHeartbeats 8000000 in
theorem kind_s37 (w : World) : Calls Try.prog 20 #[.int .u8 37] w fun e w' => e = .returned (.int .i64 3) ∧ w' = w := by
  go_enter Try.func20, Try.ntmps20
  go_wp2
  go_rounds 13
  go_ret
  exact ⟨rfl, rfl⟩
set_option maxRecDepth 100000 in
set_option maxHeartbeats 8000000 in
theorem kind_m94 (w : World) : Calls Try.prog 20 #[.int .u8 94] w fun e w' => e = .returned (.int .i64 4) ∧ w' = w := by
  go_enter Try.func20, Try.ntmps20
  go_wp2
  go_rounds 13
  go_rounds 9
  go_ret
  exact ⟨rfl, rfl⟩
set_option maxRecDepth 100000 in
set_option maxHeartbeats 8000000 in
theorem kind_m46 (w : World) : Calls Try.prog 20 #[.int .u8 46] w fun e w' => e = .returned (.int .i64 4) ∧ w' = w := by
  go_enter Try.func20, Try.ntmps20
  go_wp2
  go_rounds 13
  go_rounds 9
  go_ret
  exact ⟨rfl, rfl⟩
set_option maxRecDepth 100000 in
set_option maxHeartbeats 8000000 in
theorem kind_m59 (w : World) : Calls Try.prog 20 #[.int .u8 59] w fun e w' => e = .returned (.int .i64 4) ∧ w' = w := by
  go_enter Try.func20, Try.ntmps20
  go_wp2
  go_rounds 13
  go_rounds 9
  go_ret
  exact ⟨rfl, rfl⟩
set_option maxRecDepth 100000 in
set_option maxHeartbeats 8000000 in
theorem kind_m40 (w : World) : Calls Try.prog 20 #[.int .u8 40] w fun e w' => e = .returned (.int .i64 4) ∧ w' = w := by
  go_enter Try.func20, Try.ntmps20
  go_wp2
  go_rounds 13
  go_rounds 9
  go_ret
  exact ⟨rfl, rfl⟩
set_option maxRecDepth 100000 in
set_option maxHeartbeats 8000000 in
theorem kind_m41 (w : World) : Calls Try.prog 20 #[.int .u8 41] w fun e w' => e = .returned (.int .i64 4) ∧ w' = w := by
  go_enter Try.func20, Try.ntmps20
  go_wp2
  go_rounds 13
  go_rounds 9
  go_ret
  exact ⟨rfl, rfl⟩
set_option maxRecDepth 100000 in
set_option maxHeartbeats 8000000 in
theorem kind_m91 (w : World) : Calls Try.prog 20 #[.int .u8 91] w fun e w' => e = .returned (.int .i64 4) ∧ w' = w := by
  go_enter Try.func20, Try.ntmps20
  go_wp2
  go_rounds 13
  go_rounds 9
  go_ret
  exact ⟨rfl, rfl⟩
set_option maxRecDepth 100000 in
set_option maxHeartbeats 8000000 in
theorem kind_m93 (w : World) : Calls Try.prog 20 #[.int .u8 93] w fun e w' => e = .returned (.int .i64 4) ∧ w' = w := by
  go_enter Try.func20, Try.ntmps20
  go_wp2
  go_rounds 13
  go_rounds 9
  go_ret
  exact ⟨rfl, rfl⟩
set_option maxRecDepth 100000 in
set_option maxHeartbeats 8000000 in
theorem kind_m124 (w : World) : Calls Try.prog 20 #[.int .u8 124] w fun e w' => e = .returned (.int .i64 4) ∧ w' = w := by
  go_enter Try.func20, Try.ntmps20
  go_wp2
  go_rounds 13
  go_rounds 9
  go_ret
  exact ⟨rfl, rfl⟩
end Go.Proofs.Ytdcibeagljeioaa

/- Chapter 06: contracts of the reference: what a byte is; names; colons. -/
import Derived.Test.YtdcibeagljeioaaW3
namespace Go.Proofs.Ytdcibeagljeioaa
open Go.ChangeShapes Go.WideShapes Go.ChangeAt Go.RowKit
set_option linter.unusedVariables false
set_option linter.unusedSimpArgs false
/-- a byte's kind -/
def kindV (c : UInt8) : Int := if letB c then 1 else if digB c then 2 else if blankB c then 5 else if signB c then 3 else if markB c then 4 else 0
theorem ret_int {k : IntKind} {a b : Int} (h : a = b) : Ending.returned (.int k a) = .returned (.int k b) := by rw [h]
theorem sign_any : ∀ c : UInt8, signB c = (c == 43 || c == 45 || c == 42 || c == 47 || c == 60 || c == 62 || c == 61 || c == 126 || c == 44 || c == 64 || c == 38 || c == 37) := fun c => by
  rw [Bool.eq_iff_iff]; simp [signB, signs, or_assoc]
set_option maxRecDepth 100000 in
set_option maxHeartbeats 4000000 in
theorem kind_let (c : UInt8) (w : World) (hl : letB c = true) : Calls Try.prog 20 #[.int .u8 c.toNat] w fun e w' => e = .returned (.int .i64 (kindV c)) ∧ w' = w := by
  have F : Hid (kindV c = 1) := by show _ = _; unfold kindV; rw [if_pos hl]
  have hd := let_eq c
  rw [hl] at hd
  have hd' := hd.symm
  simp only [Bool.or_eq_true, Bool.and_eq_true, decide_eq_true_eq] at hd'
  clear hd hl
  rcases hd' with ⟨h1, h2⟩ | ⟨h1, h2⟩
  · go_enter Try.func20, Try.ntmps20
    go_wp2
    go_ret
    exact ⟨ret_int F.out.symm, rfl⟩
  · have h3 : ¬ 97 ≤ (c.toNat : Int) := by omega
    go_enter Try.func20, Try.ntmps20
    go_wp2
    go_ret
    exact ⟨ret_int F.out.symm, rfl⟩
set_option maxRecDepth 100000 in
set_option maxHeartbeats 4000000 in
theorem kind_dig (c : UInt8) (w : World) (hl : letB c = false) (hg : digB c = true) : Calls Try.prog 20 #[.int .u8 c.toNat] w fun e w' => e = .returned (.int .i64 (kindV c)) ∧ w' = w := by
  have F : Hid (kindV c = 2) := by show _ = _; unfold kindV; rw [if_neg (by simp [hl]), if_pos hg]
  have hd := dig_eq c
  rw [hg] at hd
  have hd' := hd.symm
  simp only [Bool.and_eq_true, decide_eq_true_eq] at hd'
  obtain ⟨h1, h2⟩ := hd'
  have h3 : ¬ 97 ≤ (c.toNat : Int) := by omega
  have h4 : ¬ 65 ≤ (c.toNat : Int) := by omega
  clear hd hl hg
  go_enter Try.func20, Try.ntmps20
  go_wp2
  go_ret
  exact ⟨ret_int F.out.symm, rfl⟩
end Go.Proofs.Ytdcibeagljeioaa

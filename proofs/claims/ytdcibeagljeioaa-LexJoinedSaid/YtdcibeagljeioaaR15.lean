/- Chapter 06: the reference's token: an assignment's sign. -/
import Derived.Test.YtdcibeagljeioaaR14
namespace Go.Proofs.Ytdcibeagljeioaa
open Go.ChangeShapes Go.WideShapes Go.ChangeAt Go.RowKit
set_option linter.unusedVariables false
set_option linter.unusedSimpArgs false
set_option maxRecDepth 100000 in
set_option maxHeartbeats 4000000 in
theorem rtok_assign (s : ByteArray) (i : Nat) (w : World) (hs : s.size ≤ 100000) (hi : i < s.size) (h58 : byteU s i = 58) (h61 : byteU s (i + 1) = 61) :
    Calls Try.prog 19 #[.string s, .int .i64 i] w (RPost (tokV (s.data.toList.drop i)) w i i) := by
  have hi1 : i + 1 < s.size := by
    rcases Nat.lt_or_ge (i + 1) s.size with h | h
    · exact h
    · rw [byteU_ge h] at h61; cases h61
  have F : Hid (tokV (s.data.toList.drop i) = .ok ⟨9, [], 0⟩ 2) := by show _ = _; rw [byte_cons hi, h58, byte_cons hi1, h61]; rfl
  have h0 : atV s i = 0 := by unfold atV; rw [dif_pos hi, ← byteU_lt hi, h58]; rfl
  obtain ⟨a, ha⟩ : ∃ a, a = (0 : Int) := ⟨_, rfl⟩
  rw [← ha] at h0
  have HA := Lib.hid h0
  have a1 : (a == 1) = false := by rw [ha]; rfl
  have a2 : (a == 2) = false := by rw [ha]; rfl
  have a3 : (a == 3) = false := by rw [ha]; rfl
  have a4 : (a == 4) = false := by rw [ha]; rfl
  have hx : s[i] = 58 := by rw [← byteU_lt hi, h58]
  have hy : s[i + 1] = 61 := by rw [← byteU_lt hi1, h61]
  have b0 : (0 : Int) ≤ (i : Int) := by omega
  have b1 : (i : Int) < (s.size : Int) := by omega
  have b2 : (i : Int) + 1 < (s.size : Int) := by omega
  have b3 : (0 : Int) ≤ (i : Int) + 1 := by omega
  have d1 : decide (i + 1 < s.size) = true := decide_eq_true hi1
  have d1' : decide ((i : Int) + 1 < (s.size : Int)) = true := decide_eq_true b2
  clear ha h0 h58 h61
  go_enter Try.func19, Try.ntmps19
  go_wp2_with (go_at_call 31; (with_reducible refine (rat_any _ _ _ hs).mono ?_); rw [HA.out]; rintro e w' ⟨rfl, rfl⟩)
  refine bodyPost_ret (v := .tuple #[.agg #[.int .i64 9, .string ⟨#[]⟩, .int .i64 0, .int .i64 i], .int .i64 ((i : Int) + 2), .int .i64 0]) (by simp [results, Try.results19, go_sem, *]) rfl ?_
  refine ⟨?_, .inr ⟨_, _, ⟨#[]⟩, F.out, rfl, rfl⟩⟩
  repeat' (first | (with_reducible exact World.grownBy.refl _ _) | (with_reducible assumption) | (with_reducible refine grown_alloc ?_ _) | (with_reducible refine grown_drewN ?_ _) | (with_reducible refine grown_setOwn ?_ ?_ _) | omega)
end Go.Proofs.Ytdcibeagljeioaa

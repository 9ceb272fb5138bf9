/- Chapter 06: the reference's token: marks and signs. -/
import Derived.Test.YtdcibeagljeioaaR9
namespace Go.Proofs.Ytdcibeagljeioaa
open Go.ChangeShapes Go.WideShapes Go.ChangeAt Go.RowKit
set_option linter.unusedVariables false
set_option linter.unusedSimpArgs false
theorem kind_markb (c : UInt8) : (kindV c == 4) = markB c := by
  unfold kindV
  cases hs : markB c
  · cases letB c <;> cases digB c <;> cases blankB c <;> cases signB c <;> rfl
  · simp [markB, marks] at hs
    rcases hs with rfl | rfl | rfl | rfl | rfl | rfl | rfl | rfl <;> decide
set_option maxRecDepth 100000 in
set_option maxHeartbeats 4000000 in
theorem rtok_mark (s : ByteArray) (i : Nat) (w : World) (hs : s.size ≤ 100000) (hi : i < s.size) (hm : markB (byteU s i) = true) :
    Calls Try.prog 19 #[.string s, .int .i64 i] w (RPost (tokV (s.data.toList.drop i)) w i i) := by
  have F : Hid (tokV (s.data.toList.drop i) = .ok ⟨10, [byteU s i], 0⟩ 1) := by
    show _ = _
    rw [byte_cons hi]
    generalize byteU s i = c at hm ⊢
    generalize s.data.toList.drop (i + 1) = r
    simp [markB, marks] at hm
    rcases hm with rfl | rfl | rfl | rfl | rfl | rfl | rfl | rfl <;> rfl
  have HA : Hid (atV s i = 4) := by show _ = _; unfold atV; rw [dif_pos hi, ← byteU_lt hi]; have := (kind_markb (byteU s i)).trans hm; simpa using this
  clear hm
  obtain ⟨a, ha⟩ : ∃ a, a = (4 : Int) := ⟨_, rfl⟩
  rw [← ha] at HA
  have a1 : (a == 1) = false := by rw [ha]; rfl
  have a2 : (a == 2) = false := by rw [ha]; rfl
  have a3 : (a == 3) = false := by rw [ha]; rfl
  have a4 : (a == 4) = true := by rw [ha]; rfl
  clear ha
  have b1 : (i : Int) + 1 ≤ (s.size : Int) := by omega
  have b2 : (i : Int) ≤ (i : Int) + 1 := by omega
  have b3 : (0 : Int) ≤ (i : Int) + 1 := by omega
  have b4 : ((i : Int) + 1).toNat = i + 1 := by omega
  have b5 : i ≤ i + 1 := by omega
  have b6 : i + 1 ≤ s.size := by omega
  obtain ⟨t, ht⟩ : ∃ t, s.extract i (i + 1) = t := ⟨_, rfl⟩
  have HT : Hid (t.data.toList = [byteU s i]) := by show _ = _; rw [byteU_lt hi]; exact one_byte hi ht
  go_enter Try.func19, Try.ntmps19
  go_wp2_with (first | (go_at_call 31; (with_reducible refine (rat_any _ _ _ hs).mono ?_); rw [HA.out]; rintro e w' ⟨rfl, rfl⟩))
  refine bodyPost_ret (v := .tuple #[.agg #[.int .i64 10, .string t, .int .i64 0, .int .i64 i], .int .i64 ((i : Int) + 1), .int .i64 0]) (by simp [results, Try.results19, go_sem, *]) rfl ?_
  refine ⟨?_, .inr ⟨_, _, t, F.out, HT.out, rfl⟩⟩
  repeat' (first | (with_reducible exact World.grownBy.refl _ _) | (with_reducible assumption) | (with_reducible refine grown_alloc ?_ _) | (with_reducible refine grown_drewN ?_ _) | (with_reducible refine grown_setOwn ?_ ?_ _) | omega)
end Go.Proofs.Ytdcibeagljeioaa

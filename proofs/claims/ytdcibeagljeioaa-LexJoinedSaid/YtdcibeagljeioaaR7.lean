/- Chapter 06: the reference's symbol. -/
import Derived.Test.YtdcibeagljeioaaR6
namespace Go.Proofs.Ytdcibeagljeioaa
open Go.ChangeShapes Go.WideShapes Go.ChangeAt Go.RowKit
set_option linter.unusedVariables false
set_option linter.unusedSimpArgs false
/-- what stands behind a hash -/
def hashV (r : Bs) : Took Tok := if hd (· == 40) r then .ok ⟨7, [], 0⟩ 1 else match symV r with | .err e => .err e | .ok t n => .ok ⟨6, t, 0⟩ n
/-- what the reference's token comes to -/
def RPost (V : Took Tok) (w : World) (i base : Nat) (e : Ending) (w' : World) : Prop := w.grownBy w' none ∧
  ((∃ x, V = .err x ∧ ∃ (k1 : Int) (k2 : ByteArray) (k3 : Int), e = .returned (.tuple #[.agg #[.int .i64 k1, .string k2, .int .i64 k3, .int .i64 i], .int .i64 0, .int .i64 x])) ∨
   ∃ (t : Tok) (n : Nat) (T : ByteArray), V = .ok t n ∧ T.data.toList = t.text ∧ e = .returned (.tuple #[.agg #[.int .i64 t.kind, .string T, .int .i64 t.num, .int .i64 i], .int .i64 ((base + n : Nat) : Int), .int .i64 0]))
theorem kind_sign (c : UInt8) : (kindV c == 3) = signB c := by
  unfold kindV
  cases hs : signB c
  · cases letB c <;> cases digB c <;> cases blankB c <;> cases markB c <;> rfl
  · simp [signB, signs] at hs
    rcases hs with rfl | rfl | rfl | rfl | rfl | rfl | rfl | rfl | rfl | rfl | rfl | rfl <;> decide
theorem kind_letter (c : UInt8) : (kindV c == 1) = letB c := by
  unfold kindV
  cases letB c <;> cases digB c <;> cases blankB c <;> cases signB c <;> cases markB c <;> rfl
theorem at_sign (s : ByteArray) (i : Nat) : hd signB (s.data.toList.drop i) = (atV s i == 3) := by
  unfold atV
  by_cases h : i < s.size
  · rw [dif_pos h, hd_drop h, kind_sign]
  · rw [dif_neg h, hd_end (by omega)]; rfl
theorem at_let (s : ByteArray) (i : Nat) : hd letB (s.data.toList.drop i) = (atV s i == 1) := by
  unfold atV
  by_cases h : i < s.size
  · rw [dif_pos h, hd_drop h, kind_letter]
  · rw [dif_neg h, hd_end (by omega)]; rfl
theorem rat1 (s : ByteArray) (i : Nat) (w : World) (hs : s.size ≤ 100000) : Calls Try.prog 31 #[.string s, .int .i64 ((i : Int) + 1)] w fun e w' => e = .returned (.int .i64 (atV s (i + 1))) ∧ w' = w := rat_any s (i + 1) w hs
theorem rat2 (s : ByteArray) (i : Nat) (w : World) (hs : s.size ≤ 100000) : Calls Try.prog 31 #[.string s, .int .i64 ((i : Int) + 1 + 1)] w fun e w' => e = .returned (.int .i64 (atV s (i + 1 + 1))) ∧ w' = w := rat_any s (i + 1 + 1) w hs
set_option maxHeartbeats 4000000 in
theorem rsym_arr (s : ByteArray) (i : Nat) (w : World) (hs : s.size ≤ 100000) (hi : i + 1 ≤ s.size) (h40 : hd (· == 40) (s.data.toList.drop (i + 1)) = true) :
    Calls Try.prog 35 #[.string s, .agg #[.int .i64 0, .string ⟨#[]⟩, .int .i64 0, .int .i64 i]] w (RPost (hashV (s.data.toList.drop (i + 1))) w i (i + 1)) := by
  have F : Hid (hashV (s.data.toList.drop (i + 1)) = .ok ⟨7, [], 0⟩ 1) := if_pos h40
  rw [hd_byte (p := (· == 40)) rfl] at h40
  have hlt : i + 1 < s.size := by
    rcases Nat.lt_or_ge (i + 1) s.size with h | h
    · exact h
    · rw [byteU_ge h] at h40; cases h40
  rw [byteU_lt hlt] at h40
  have d1 : decide (i + 1 < s.size) = true := decide_eq_true hlt
  have d1' : decide ((i : Int) + 1 < (s.size : Int)) = true := decide_eq_true (by omega)
  have b2 : (i : Int) + 1 < (s.size : Int) := by omega
  have b3 : (0 : Int) ≤ (i : Int) + 1 := by omega
  obtain ⟨x, hx⟩ : ∃ x, s[i + 1] = x := ⟨_, rfl⟩
  rw [hx] at h40
  have e40 := u8_eq x 40 (by omega)
  rw [show (x == UInt8.ofNat 40) = true from h40] at e40
  have n40 : ((x.toNat : Int) == 40) = true := e40
  clear h40 e40
  go_enter Try.func35, Try.ntmps35
  go_wp2
  refine bodyPost_ret (v := .tuple #[.agg #[.int .i64 7, .string ⟨#[]⟩, .int .i64 0, .int .i64 i], .int .i64 ((i : Int) + 1 + 1), .int .i64 0]) (by simp [results, Try.results35, go_sem, *]) rfl ?_
  refine ⟨?_, .inr ⟨_, _, ⟨#[]⟩, F.out, rfl, ?_⟩⟩
  · repeat' (first | (with_reducible exact World.grownBy.refl _ _) | (with_reducible assumption) | (with_reducible refine grown_alloc ?_ _) | (with_reducible refine grown_drewN ?_ _) | (with_reducible refine grown_setOwn ?_ ?_ _) | omega)
  · rfl
set_option maxHeartbeats 4000000 in
theorem rsym_none (s : ByteArray) (i : Nat) (w : World) (hs : s.size ≤ 100000) (hi : i + 1 ≤ s.size) (h40 : hd (· == 40) (s.data.toList.drop (i + 1)) = false) (hsg : hd signB (s.data.toList.drop (i + 1)) = false) (hlt : hd letB (s.data.toList.drop (i + 1)) = false) :
    Calls Try.prog 35 #[.string s, .agg #[.int .i64 0, .string ⟨#[]⟩, .int .i64 0, .int .i64 i]] w (RPost (hashV (s.data.toList.drop (i + 1))) w i (i + 1)) := by
  have F : Hid (hashV (s.data.toList.drop (i + 1)) = .err 10) := by show _ = _; unfold hashV; rw [if_neg (by simp [h40]), sym_none hsg hlt]
  rw [hd_byte (p := (· == 40)) rfl] at h40
  rw [at_sign] at hsg
  rw [at_let] at hlt
  obtain ⟨a, ha⟩ : ∃ a, atV s (i + 1) = a := ⟨_, rfl⟩
  have HA := Lib.hid ha
  rw [ha] at hsg hlt
  have nlt : (a != 1) = true := by unfold bne; rw [hlt]; rfl
  clear ha
  have b3 : (0 : Int) ≤ (i : Int) + 1 := by omega
  by_cases hlt' : i + 1 < s.size
  · rw [byteU_lt hlt'] at h40
    have d1 : decide (i + 1 < s.size) = true := decide_eq_true hlt'
    have d1' : decide ((i : Int) + 1 < (s.size : Int)) = true := decide_eq_true (by omega)
    have b2 : (i : Int) + 1 < (s.size : Int) := by omega
    obtain ⟨x, hx⟩ : ∃ x, s[i + 1] = x := ⟨_, rfl⟩
    rw [hx] at h40
    have e40 := u8_eq x 40 (by omega)
    rw [show (x == UInt8.ofNat 40) = false from h40] at e40
    have n40 : ((x.toNat : Int) == 40) = false := e40
    clear h40 e40
    go_enter Try.func35, Try.ntmps35
    go_wp2_with (go_at_call 31; (with_reducible refine (rat1 _ _ _ hs).mono ?_); rw [HA.out]; rintro e w' ⟨rfl, rfl⟩)
    refine bodyPost_ret (v := .tuple #[.agg #[.int .i64 6, .string ⟨#[]⟩, .int .i64 0, .int .i64 i], .int .i64 0, .int .i64 10]) (by simp [results, Try.results35, go_sem, *]) rfl ?_
    refine ⟨?_, .inl ⟨_, F.out, _, _, _, rfl⟩⟩
    repeat' (first | (with_reducible exact World.grownBy.refl _ _) | (with_reducible assumption) | (with_reducible refine grown_alloc ?_ _) | (with_reducible refine grown_drewN ?_ _) | (with_reducible refine grown_setOwn ?_ ?_ _) | omega)
  · have d1 : decide (i + 1 < s.size) = false := decide_eq_false hlt'
    have d1' : decide ((i : Int) + 1 < (s.size : Int)) = false := decide_eq_false (by omega)
    clear h40
    go_enter Try.func35, Try.ntmps35
    go_wp2_with (go_at_call 31; (with_reducible refine (rat1 _ _ _ hs).mono ?_); rw [HA.out]; rintro e w' ⟨rfl, rfl⟩)
    refine bodyPost_ret (v := .tuple #[.agg #[.int .i64 6, .string ⟨#[]⟩, .int .i64 0, .int .i64 i], .int .i64 0, .int .i64 10]) (by simp [results, Try.results35, go_sem, *]) rfl ?_
    refine ⟨?_, .inl ⟨_, F.out, _, _, _, rfl⟩⟩
    repeat' (first | (with_reducible exact World.grownBy.refl _ _) | (with_reducible assumption) | (with_reducible refine grown_alloc ?_ _) | (with_reducible refine grown_drewN ?_ _) | (with_reducible refine grown_setOwn ?_ ?_ _) | omega)
end Go.Proofs.Ytdcibeagljeioaa

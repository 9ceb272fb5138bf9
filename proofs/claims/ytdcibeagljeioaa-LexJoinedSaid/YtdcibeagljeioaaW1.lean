/- Chapter 06: contracts of the leaves: what a byte is; where a byte stands. -/
import Derived.Test.YtdcibeagljeioaaChecked
import Derived.Test.YtdcibeagljeioaaMem
import Derived.Test.YtdcibeagljeioaaPlain2
import Derived.Lib.Bytealg
import Derived.BigGuard
import Derived.Deep.Draws
namespace Go.Proofs.Ytdcibeagljeioaa
open Go.ChangeShapes Go.WideShapes Go.ChangeAt Go.RowKit
set_option linter.unusedVariables false
set_option linter.unusedSimpArgs false
theorem let_eq (c : UInt8) : letB c = ((decide (97 ≤ (c.toNat : Int)) && decide ((c.toNat : Int) ≤ 122)) || (decide (65 ≤ (c.toNat : Int)) && decide ((c.toNat : Int) ≤ 90))) := by
  unfold letB
  rw [Bool.eq_iff_iff]
  simp only [UInt8.le_iff_toNat_le, Bool.or_eq_true, Bool.and_eq_true, decide_eq_true_eq]
  simp; omega
theorem dig_eq (c : UInt8) : digB c = (decide (48 ≤ (c.toNat : Int)) && decide ((c.toNat : Int) ≤ 57)) := by
  unfold digB
  rw [Bool.eq_iff_iff]
  simp only [UInt8.le_iff_toNat_le, Bool.and_eq_true, decide_eq_true_eq]
  simp; omega
theorem ret_bool {a b : Bool} (h : a = b) : Ending.returned (.bool a) = .returned (.bool b) := by rw [h]
theorem dig_any (c : UInt8) (w : World) : Calls Try.prog 27 #[.int .u8 c.toNat] w fun e w' => e = .returned (.bool (digB c)) ∧ w' = w := by
  have hd := Lib.hid (dig_eq c)
  by_cases h1 : 48 ≤ (c.toNat : Int)
  · by_cases h2 : (c.toNat : Int) ≤ 57
    · have F : Hid (digB c = true) := by show _ = _; rw [hd.out]; simp [h1, h2]
      go_enter Try.func27, Try.ntmps27
      go_wp2
      go_ret
      exact ⟨ret_bool F.out.symm, rfl⟩
    · have F : Hid (digB c = false) := by show _ = _; rw [hd.out]; simp [h2]
      go_enter Try.func27, Try.ntmps27
      go_wp2
      go_ret
      exact ⟨ret_bool F.out.symm, rfl⟩
  · have F : Hid (digB c = false) := by show _ = _; rw [hd.out]; simp [h1]
    go_enter Try.func27, Try.ntmps27
    go_wp2
    go_ret
    exact ⟨ret_bool F.out.symm, rfl⟩
theorem let_any (c : UInt8) (w : World) : Calls Try.prog 24 #[.int .u8 c.toNat] w fun e w' => e = .returned (.bool (letB c)) ∧ w' = w := by
  have hd := Lib.hid (let_eq c)
  by_cases h1 : 97 ≤ (c.toNat : Int)
  · by_cases h2 : (c.toNat : Int) ≤ 122
    · have F : Hid (letB c = true) := by show _ = _; rw [hd.out]; simp [h1, h2]
      go_enter Try.func24, Try.ntmps24
      go_wp2
      go_ret
      exact ⟨ret_bool F.out.symm, rfl⟩
    · have h4 : ¬ (c.toNat : Int) ≤ 90 := by omega
      have F : Hid (letB c = false) := by show _ = _; rw [hd.out]; simp [h2, h4]
      go_enter Try.func24, Try.ntmps24
      go_wp2
      go_ret
      exact ⟨ret_bool F.out.symm, rfl⟩
  · by_cases h3 : 65 ≤ (c.toNat : Int)
    · by_cases h4 : (c.toNat : Int) ≤ 90
      · have F : Hid (letB c = true) := by show _ = _; rw [hd.out]; simp [h3, h4]
        go_enter Try.func24, Try.ntmps24
        go_wp2
        go_ret
        exact ⟨ret_bool F.out.symm, rfl⟩
      · have F : Hid (letB c = false) := by show _ = _; rw [hd.out]; simp [h1, h4]
        go_enter Try.func24, Try.ntmps24
        go_wp2
        go_ret
        exact ⟨ret_bool F.out.symm, rfl⟩
    · have F : Hid (letB c = false) := by show _ = _; rw [hd.out]; simp [h1, h3]
      go_enter Try.func24, Try.ntmps24
      go_wp2
      go_ret
      exact ⟨ret_bool F.out.symm, rfl⟩
theorem ix1_any (s : ByteArray) (c : UInt8) (w : World) : Calls Try.prog 22 #[.string s, .int .u8 c.toNat] w fun e w' => e = .returned (.int .i64 (Lib.indexByte s.data.toList c)) ∧ w' = w := by
  go_enter Try.func22, Try.ntmps22
  go_wp2
  rw [run_callFunc_extern Try.func36 (by kernel_rfl) (by kernel_rfl) (by kernel_rfl) (e := Extern.BytealgIndexByte.indexByte) (by kernel_rfl), Lib.run_indexByteString]
  simp only [Result.andThen]
  rw [Oper.upon_value]
  go_wp2
  go_ret
  exact ⟨by simp, rfl⟩
theorem ix_any (s : ByteArray) (c : UInt8) (w : World) : Calls Try.prog 17 #[.string s, .int .u8 c.toNat] w fun e w' => e = .returned (.int .i64 (Lib.indexByte s.data.toList c)) ∧ w' = w := by
  go_enter Try.func17, Try.ntmps17
  go_wp2_with (go_at_call 22; (with_reducible refine (ix1_any _ _ _).mono ?_); rintro e w' ⟨rfl, rfl⟩)
  go_ret
  exact ⟨rfl, rfl⟩
def memB (l : Bs) (c : UInt8) : Bool := decide (0 ≤ Lib.indexByte l c)
def notQ (c : UInt8) : Bool := c != 39
/-- the closure that asks whether a byte is one of some -/
theorem in_any (s : ByteArray) (c : UInt8) (w : World) (b : Nat) (hb : w.cell? ⟨b, 0, none⟩ = some (.string s)) : Calls Try.prog 21 #[.int .u8 c.toNat, .pointer (some ⟨b, 0, none⟩)] w fun e w' => e = .returned (.bool (memB s.data.toList c)) ∧ w' = w := by
  go_enter Try.func21, Try.ntmps21
  go_wp2_with (go_at_call 17; (with_reducible refine (ix_any _ _ _).mono ?_); rintro e w' ⟨rfl, rfl⟩)
  go_ret
  exact ⟨rfl, rfl⟩
theorem aln_any (c : UInt8) (w : World) : Calls Try.prog 37 #[.int .u8 c.toNat] w fun e w' => e = .returned (.bool (alnB c)) ∧ w' = w := by
  cases h : letB c
  · go_enter Try.func37, Try.ntmps37
    go_wp2_with (first | (go_at_call 24; (with_reducible refine (let_any _ _).mono ?_); rw [h]; rintro e w' ⟨rfl, rfl⟩) | (go_at_call 27; (with_reducible refine (dig_any _ _).mono ?_); rintro e w' ⟨rfl, rfl⟩))
    go_ret
    exact ⟨ret_bool (by simp [alnB, h]), rfl⟩
  · go_enter Try.func37, Try.ntmps37
    go_wp2_with (first | (go_at_call 24; (with_reducible refine (let_any _ _).mono ?_); rw [h]; rintro e w' ⟨rfl, rfl⟩) | (go_at_call 27; (with_reducible refine (dig_any _ _).mono ?_); rintro e w' ⟨rfl, rfl⟩))
    go_ret
    exact ⟨ret_bool (by simp [alnB, h]), rfl⟩
theorem notq_any (c : UInt8) (w : World) : Calls Try.prog 38 #[.int .u8 c.toNat] w fun e w' => e = .returned (.bool (notQ c)) ∧ w' = w := by
  have F : Hid ((!((c.toNat : Int) == 39)) = notQ c) := by
    show _ = (c != 39)
    rw [Bool.eq_iff_iff]
    simp [← UInt8.toNat_inj]
    omega
  go_enter Try.func38, Try.ntmps38
  go_wp2
  go_ret
  exact ⟨ret_bool F.out, rfl⟩
/-- a reader at a place of a source -/
structure At (w : World) (b : Nat) (s : ByteArray) (i : Nat) : Prop where
  c0 : w.cell? ⟨b, 0, none⟩ = some (.string s)
  c1 : w.cell? ⟨b, 1, none⟩ = some (.int .i64 i)
  f1 : w.frozen? ⟨b, 1, none⟩ = false
def byteU (s : ByteArray) (i : Nat) : UInt8 := if h : i < s.size then s[i] else 0
theorem next_any {w : World} {b : Nat} {s : ByteArray} {i : Nat} (h : At w b s i) (k : Nat) (hs : s.size ≤ 100000) (hi : i ≤ s.size) (hk : k ≤ 10) :
    Calls Try.prog 23 #[.pointer (some ⟨b, 0, none⟩), .int .i64 k] w fun e w' => e = .returned (.int .u8 (byteU s (i + k)).toNat) ∧ ∃ n, w' = w.drewN n := by
  obtain ⟨c0, c1, f1⟩ := h
  by_cases hlt : i + k < s.size
  · have F : Hid (byteU s (i + k) = s[i + k]'hlt) := dif_pos hlt
    have d : decide ((s.size : Int) ≤ (i : Int) + (k : Int)) = false := decide_eq_false (by omega)
    have d2 : decide (s.size ≤ i + k) = false := decide_eq_false (by omega)
    have b1 : (0 : Int) ≤ (i : Int) + (k : Int) := by omega
    have b2 : (i : Int) + (k : Int) < (s.size : Int) := by omega
    go_enter Try.func23, Try.ntmps23
    go_wp2
    go_quiet (fail)
    go_wp2
    go_quiet (fail)
    go_wp2
    go_ret
    exact ⟨by rw [F.out]; rfl, _, World.drewN_drewN _ _ _⟩
  · have F : Hid (byteU s (i + k) = 0) := dif_neg hlt
    have d : decide ((s.size : Int) ≤ (i : Int) + (k : Int)) = true := decide_eq_true (by omega)
    have d2 : decide (s.size ≤ i + k) = true := decide_eq_true (by omega)
    go_enter Try.func23, Try.ntmps23
    go_wp2
    go_quiet (fail)
    go_wp2
    go_ret
    exact ⟨by rw [F.out]; rfl, _, rfl⟩
end Go.Proofs.Ytdcibeagljeioaa

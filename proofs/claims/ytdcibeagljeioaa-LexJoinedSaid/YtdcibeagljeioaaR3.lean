/- Chapter 06: contracts of the reference: what a byte is; of one that is nothing. -/
import Derived.Test.YtdcibeagljeioaaR2
import Derived.LoopN
namespace Go.Proofs.Ytdcibeagljeioaa
open Go.ChangeShapes Go.WideShapes Go.ChangeAt Go.RowKit
set_option linter.unusedVariables false
set_option linter.unusedSimpArgs false

theorem no_sign (c : UInt8) (hn : (signB c || markB c) = false) (k : Nat) (hk : k < 12) : ((((⟨#[43, 45, 42, 47, 60, 62, 61, 126, 44, 64, 38, 37]⟩ : ByteArray)[k]'hk).toNat : Int) == (c.toNat : Int)) = false := by
  have hall : ∀ k (h : k < 12), signB ((⟨#[43, 45, 42, 47, 60, 62, 61, 126, 44, 64, 38, 37]⟩ : ByteArray)[k]'h) = true := by decide
  have h1 := hall k hk
  cases hh : ((((⟨#[43, 45, 42, 47, 60, 62, 61, 126, 44, 64, 38, 37]⟩ : ByteArray)[k]'hk).toNat : Int) == (c.toNat : Int))
  · rfl
  · have h2 : ((⟨#[43, 45, 42, 47, 60, 62, 61, 126, 44, 64, 38, 37]⟩ : ByteArray)[k]'hk) = c := by
      apply UInt8.toNat_inj.1
      have := beq_iff_eq.1 hh
      omega
    rw [h2] at h1
    rw [h1] at hn
    simp at hn
theorem no_mark (c : UInt8) (hn : (signB c || markB c) = false) (k : Nat) (hk : k < 8) : ((((⟨#[94, 46, 59, 40, 41, 91, 93, 124]⟩ : ByteArray)[k]'hk).toNat : Int) == (c.toNat : Int)) = false := by
  have hall : ∀ k (h : k < 8), markB ((⟨#[94, 46, 59, 40, 41, 91, 93, 124]⟩ : ByteArray)[k]'h) = true := by decide
  have h1 := hall k hk
  cases hh : ((((⟨#[94, 46, 59, 40, 41, 91, 93, 124]⟩ : ByteArray)[k]'hk).toNat : Int) == (c.toNat : Int))
  · rfl
  · have h2 : ((⟨#[94, 46, 59, 40, 41, 91, 93, 124]⟩ : ByteArray)[k]'hk) = c := by
      apply UInt8.toNat_inj.1
      have := beq_iff_eq.1 hh
      omega
    rw [h2] at h1
    rw [h1] at hn
    simp at hn
set_option maxRecDepth 100000 in
set_option maxHeartbeats 8000000 in
theorem kind_none (c : UInt8) (w : World) (hl : letB c = false) (hg : digB c = false) (hb : blankB c = false) (hn : (signB c || markB c) = false) : Calls Try.prog 20 #[.int .u8 c.toNat] w fun e w' => e = .returned (.int .i64 0) ∧ w' = w := by
  have HN := Lib.hid hn
  have b9 : ((c.toNat : Int) == 9) = false := (u8_eq c 9 (by omega)).trans (beq_false_of_ne (fun e => by rw [e] at hb; revert hb; decide))
  have b10 : ((c.toNat : Int) == 10) = false := (u8_eq c 10 (by omega)).trans (beq_false_of_ne (fun e => by rw [e] at hb; revert hb; decide))
  have b13 : ((c.toNat : Int) == 13) = false := (u8_eq c 13 (by omega)).trans (beq_false_of_ne (fun e => by rw [e] at hb; revert hb; decide))
  have b32 : ((c.toNat : Int) == 32) = false := (u8_eq c 32 (by omega)).trans (beq_false_of_ne (fun e => by rw [e] at hb; revert hb; decide))
  have k1 := let_eq c
  have k2 := dig_eq c
  rw [hl] at k1
  rw [hg] at k2
  have k1' := k1.symm
  have k2' := k2.symm
  simp only [Bool.or_eq_false_iff, Bool.and_eq_false_iff, decide_eq_false_iff_not] at k1' k2'
  have hr : (c.toNat : Int) < 48 ∨ (57 < (c.toNat : Int) ∧ (c.toNat : Int) < 65) ∨ (90 < (c.toNat : Int) ∧ (c.toNat : Int) < 97) ∨ 122 < (c.toNat : Int) := by omega
  clear k1 k2 k1' k2' hl hg hb hn
  rcases hr with hr | ⟨hr, hr'⟩ | ⟨hr, hr'⟩ | hr
  all_goals
    go_enter Try.func20, Try.ntmps20
    go_wp2
    go_loop [4] (fun i => ∃ k : Nat, k ≤ 12 ∧ i = .int .i64 k) (fun i => 12 - (intOf i).toNat)
    case atStart => exact ⟨0, by omega, rfl⟩
    case round =>
      obtain ⟨k, hk, rfl⟩ := hrel
      by_cases hlt : k < 12
      · have d : decide (k < 12) = true := decide_eq_true hlt
        have b1 : (0 : Int) ≤ (k : Int) := by omega
        have b2 : (k : Int) < 12 := by omega
        have ht := no_sign c HN.out k hlt
        go_wp2
        go_round
        case rel => exact ⟨k + 1, by omega, by go_num⟩
        case measure => simp [intOf]; omega
      · have hkn : k = 12 := by omega
        subst hkn
        go_wp2
        go_loop [6] (fun i => ∃ k : Nat, k ≤ 8 ∧ i = .int .i64 k) (fun i => 8 - (intOf i).toNat)
        case atStart => exact ⟨0, by omega, rfl⟩
        case round =>
          obtain ⟨k, hk, rfl⟩ := hrel
          by_cases hlt : k < 8
          · have d : decide (k < 8) = true := decide_eq_true hlt
            have b1 : (0 : Int) ≤ (k : Int) := by omega
            have b2 : (k : Int) < 8 := by omega
            have ht := no_mark c HN.out k hlt
            go_wp2
            go_round
            case rel => exact ⟨k + 1, by omega, by go_num⟩
            case measure => simp [intOf]; omega
          · have hkn : k = 8 := by omega
            subst hkn
            go_wp2
            go_ret
            exact ⟨rfl, rfl⟩

end Go.Proofs.Ytdcibeagljeioaa

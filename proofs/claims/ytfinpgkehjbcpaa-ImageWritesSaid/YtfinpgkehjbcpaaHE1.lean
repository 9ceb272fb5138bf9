/- Chapter 02: contracts of pointers, each, Objects. -/
import Derived.Test.YtfinpgkehjbcpaaHPart
import Derived.Test.YtfinpgkehjbcpaaHM1
import Derived.Test.YtfinpgkehjbcpaaRR1
namespace Go.Proofs.Ytfinpgkehjbcpaa
open Go.ChangeShapes Go.WideShapes Go.ChangeAt Go.RowKit Go.Deep Go.Joins Go.Maps
set_option linter.unusedVariables false
set_option linter.unusedSimpArgs false

set_option maxRecDepth 100000 in
set_option maxHeartbeats 8000000 in
theorem each_objects {w : World} {s bw sz n : Nat} {c0 : Value} {A NF : Nat → Nat} (P : Nat → World → Prop) (h0 : P 0 w) (hA0 : A 0 = 3) (hA : ∀ k, k < n → A (k + 1) = A k + (NF k + 3)) (hmono : ∀ k, k < n → A k < A n) (hsz : A n ≤ sz ∧ sz ≤ 131072)
    (hend : ∀ k w', k ≤ n → P k w' → w'.cell? ⟨s, 1, none⟩ = some (.int .i64 (A n : Int)))
    (hwords : ∀ k w', k < n → P k w' → w'.cell? ⟨s, 0, none⟩ = some (.slice (some ⟨bw, 0, none⟩) sz sz) ∧ ∃ x : Int, w'.cell? ⟨bw, A k, none⟩ = some (.int .i64 x) ∧ x / 4 = (NF k : Int))
    (hcall : ∀ k w', k < n → P k w' → Calls Try.prog 72 #[.int .i64 (A k : Int), c0] w' fun e w'' => e = .returned (.tuple #[]) ∧ P (k + 1) w'') :
    Calls Try.prog 71 #[.pointer (some ⟨s, 0, none⟩), .func (.func 72) #[] #[c0]] w fun e w' => e = .returned (.tuple #[]) ∧ P n w' := by
  have H0 := Lib.hid h0
  have HA := Lib.hid hA
  have HMO := Lib.hid hmono
  have HEND := Lib.hid hend
  have HW := Lib.hid hwords
  have HC := Lib.hid hcall
  have HA0 := Lib.hid hA0
  obtain ⟨hs1, hs2⟩ := hsz
  obtain ⟨an, han⟩ : ∃ an, A n = an := ⟨_, rfl⟩
  have HAN := Lib.hid han
  rw [han] at hs1
  clear h0 hA hmono hend hwords hcall hA0 han
  go_enter Try.func71, Try.ntmps71
  go_wp2_with fail
  go_loopw [4] (fun a wr => ∃ k : Nat, k ≤ n ∧ a = .int .i64 (A k : Int) ∧ P k wr) (fun a _ => an - (intOf a).toNat)
  case atStart => exact ⟨0, Nat.zero_le _, by rw [HA0.out]; rfl, H0.out⟩
  case round =>
    obtain ⟨k, hk, rfl, hp⟩ := hrel
    have HP := Lib.hid hp
    clear hp
    have hce := HEND.out k wr hk HP.out
    rw [HAN.out] at hce
    by_cases hlt : k < n
    · have hm := HMO.out k hlt
      rw [HAN.out] at hm
      obtain ⟨hcw, x, hcx, hx4⟩ := HW.out k wr hlt HP.out
      have hs := HA.out k hlt
      have hcl := HC.out k wr hlt HP.out
      obtain ⟨a, ha⟩ : ∃ a, A k = a := ⟨_, rfl⟩
      obtain ⟨nf, hnf⟩ : ∃ nf, NF k = nf := ⟨_, rfl⟩
      have hle : A (k + 1) ≤ an := by
        rcases Nat.lt_or_ge (k + 1) n with q | q
        · have := HMO.out (k + 1) q; rw [HAN.out] at this; omega
        · obtain rfl : k + 1 = n := by omega
          rw [HAN.out]; exact Nat.le_refl _
      rw [ha] at hm hcx hs hcl ⊢
      rw [hnf] at hx4 hs
      have HS : Hid (A (k + 1) = a + (nf + 3)) := hs
      rw [hs] at hle
      have d1 : decide (a < an) = true := decide_eq_true hm
      have g0 : (0 : Int) ≤ (a : Int) := by omega
      have g1 : (a : Int) < (sz : Int) := by omega
      have HCL := Lib.hid hcl
      clear hcl hs ha hnf
      go_wp2_with (go_at_call 72; (with_reducible refine HCL.out.mono ?_); rintro e w1 ⟨rfl, hp1⟩; have HP1 := Lib.hid hp1; clear hp1)
      go_roundw
      case rel => exact ⟨k + 1, hlt, by rw [HS.out]; exact congrArg (Value.int .i64) (by omega), HP1.out⟩
      case measure => simp [intOf]; omega
    · obtain rfl : k = n := by omega
      rw [HAN.out]
      have d1 : decide (an < an) = false := decide_eq_false (by omega)
      go_wp2_with fail
      go_end0
      exact ⟨rfl, HP.out⟩
end Go.Proofs.Ytfinpgkehjbcpaa

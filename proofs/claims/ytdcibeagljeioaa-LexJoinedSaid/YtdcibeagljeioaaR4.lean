/- Chapter 06: contracts of the reference: kinds, names, colons. -/
import Derived.Test.YtdcibeagljeioaaR3
namespace Go.Proofs.Ytdcibeagljeioaa
open Go.ChangeShapes Go.WideShapes Go.ChangeAt Go.RowKit
set_option linter.unusedVariables false
set_option linter.unusedSimpArgs false
theorem kind_any (c : UInt8) (w : World) : Calls Try.prog 20 #[.int .u8 c.toNat] w fun e w' => e = .returned (.int .i64 (kindV c)) ∧ w' = w := by
  cases hl : letB c
  · cases hg : digB c
    · cases hb : blankB c
      · cases hs : signB c
        · cases hm : markB c
          · have := kind_none c w hl hg hb (by rw [hs, hm]; rfl)
            have F : kindV c = 0 := by simp [kindV, hl, hg, hb, hs, hm]
            rw [F]; exact this
          · have F : kindV c = 4 := by simp [kindV, hl, hg, hb, hs, hm]
            rw [F]
            simp [markB, marks] at hm
            rcases hm with rfl | rfl | rfl | rfl | rfl | rfl | rfl | rfl
            · exact kind_m94 w
            · exact kind_m46 w
            · exact kind_m59 w
            · exact kind_m40 w
            · exact kind_m41 w
            · exact kind_m91 w
            · exact kind_m93 w
            · exact kind_m124 w
        · have F : kindV c = 3 := by simp [kindV, hl, hg, hb, hs]
          rw [F]
          simp [signB, signs] at hs
          rcases hs with rfl | rfl | rfl | rfl | rfl | rfl | rfl | rfl | rfl | rfl | rfl | rfl
          · exact kind_s43 w
          · exact kind_s45 w
          · exact kind_s42 w
          · exact kind_s47 w
          · exact kind_s60 w
          · exact kind_s62 w
          · exact kind_s61 w
          · exact kind_s126 w
          · exact kind_s44 w
          · exact kind_s64 w
          · exact kind_s38 w
          · exact kind_s37 w
      · have F : kindV c = 5 := by simp [kindV, hl, hg, hb]
        rw [F]
        simp [blankB] at hb
        rcases hb with ((rfl | rfl) | rfl) | rfl
        · exact kind_b9 w
        · exact kind_b10 w
        · exact kind_b13 w
        · exact kind_b32 w
    · exact kind_dig c w hl hg
  · exact kind_let c w hl
/-- what stands at a place -/
def atV (s : ByteArray) (i : Nat) : Int := if h : i < s.size then kindV s[i] else -1
theorem rat_any (s : ByteArray) (i : Nat) (w : World) (hs : s.size ≤ 100000) : Calls Try.prog 31 #[.string s, .int .i64 i] w fun e w' => e = .returned (.int .i64 (atV s i)) ∧ w' = w := by
  by_cases h : i < s.size
  · have F : Hid (atV s i = kindV s[i]) := dif_pos h
    have d : decide (s.size ≤ i) = false := decide_eq_false (by omega)
    have d' : decide ((s.size : Int) ≤ (i : Int)) = false := decide_eq_false (by omega)
    have b1 : (0 : Int) ≤ (i : Int) := by omega
    have b2 : (i : Int) < (s.size : Int) := by omega
    go_enter Try.func31, Try.ntmps31
    go_wp2_with (go_at_call 20; (with_reducible refine (kind_any _ _).mono ?_); rintro e w' ⟨rfl, rfl⟩)
    go_ret
    exact ⟨ret_int F.out.symm, rfl⟩
  · have F : Hid (atV s i = -1) := dif_neg h
    have d : decide (s.size ≤ i) = true := decide_eq_true (by omega)
    have d' : decide ((s.size : Int) ≤ (i : Int)) = true := decide_eq_true (by omega)
    go_enter Try.func31, Try.ntmps31
    go_wp2
    go_ret
    exact ⟨ret_int F.out.symm, rfl⟩
theorem kind_aln (c : UInt8) : alnB c = (kindV c == 1 || kindV c == 2) := by
  unfold alnB kindV
  cases letB c
  · cases digB c
    · cases blankB c
      · cases signB c
        · cases markB c <;> rfl
        · rfl
      · rfl
    · rfl
  · rfl
theorem at_aln (s : ByteArray) (i : Nat) : hd alnB (s.data.toList.drop i) = (atV s i == 1 || atV s i == 2) := by
  unfold atV
  by_cases h : i < s.size
  · rw [dif_pos h, hd_drop h, kind_aln]
  · rw [dif_neg h, hd_end (by omega)]; rfl
set_option maxHeartbeats 4000000 in
theorem rname_any (s : ByteArray) (i : Nat) (w : World) (hs : s.size ≤ 100000) (hi : i ≤ s.size) : Calls Try.prog 32 #[.string s, .int .i64 i] w fun e w' => e = .returned (.int .i64 ((i + nmLen (s.data.toList.drop i) : Nat) : Int)) ∧ w' = w := by
  obtain ⟨n, hn⟩ : ∃ n, nmLen (s.data.toList.drop i) = n := ⟨_, rfl⟩
  have HN := Lib.hid hn
  have hbn := nm_bd s i hi
  rw [hn] at hbn ⊢
  clear hn
  go_enter Try.func32, Try.ntmps32
  go_wp2
  go_loop [1] (fun x => ∃ k : Nat, k ≤ n ∧ x = .int .i64 ((i + k : Nat) : Int)) (fun x => i + n - (intOf x).toNat)
  case atStart => exact ⟨0, by omega, rfl⟩
  case round =>
    obtain ⟨k, hk, rfl⟩ := hrel
    obtain ⟨q, hq⟩ : ∃ q, q = i + k := ⟨_, rfl⟩
    have hstep := rl_succ (p := alnB) (l := s.data.toList.drop i) (m := s.size + 1) (k := k) (by unfold rl; have := HN.out; unfold nmLen at this; rw [this]; omega)
    have hrl : rl alnB (s.data.toList.drop i) (s.size + 1) = n := by unfold rl; have := HN.out; unfold nmLen at this; rw [this]; omega
    rw [hrl, List.drop_drop, at_aln, ← hq] at hstep
    rw [← hq]
    have HQ := Lib.hid hq
    obtain ⟨a, ha⟩ : ∃ a, atV s q = a := ⟨_, rfl⟩
    rw [ha] at hstep
    have HA := Lib.hid ha
    clear hq hrl ha
    have hqb : q ≤ 100000 := by have := HQ.out; omega
    by_cases hlt : k < n
    · have h2 := (hstep.1 hlt).2
      have hlt2 : k + 1 ≤ n := hlt
      clear hstep hlt
      cases a1 : a == 1
      · have a2 : (a == 2) = true := by rw [a1] at h2; simpa using h2
        clear h2
        go_wp2_with (go_at_call 31; (with_reducible refine (rat_any _ _ _ hs).mono ?_); rw [HA.out]; rintro e w' ⟨rfl, rfl⟩)
        go_round
        case rel => exact ⟨k + 1, by omega, by have := HQ.out; subst this; rfl⟩
        case measure => have := HQ.out; simp [intOf]; omega
      · clear h2
        go_wp2_with (go_at_call 31; (with_reducible refine (rat_any _ _ _ hs).mono ?_); rw [HA.out]; rintro e w' ⟨rfl, rfl⟩)
        go_round
        case rel => exact ⟨k + 1, by omega, by have := HQ.out; subst this; rfl⟩
        case measure => have := HQ.out; simp [intOf]; omega
    · have hkn : k = n := by omega
      have h2 : (a == 1 || a == 2) = false := by
        cases hh : (a == 1 || a == 2)
        · rfl
        · exact absurd (hstep.2 ⟨by omega, hh⟩) hlt
      have HK := Lib.hid hkn
      clear hstep hlt hkn
      have a1 : (a == 1) = false := (Bool.or_eq_false_iff.1 h2).1
      have a2 : (a == 2) = false := (Bool.or_eq_false_iff.1 h2).2
      clear h2
      go_wp2_with (go_at_call 31; (with_reducible refine (rat_any _ _ _ hs).mono ?_); rw [HA.out]; rintro e w' ⟨rfl, rfl⟩)
      go_ret
      exact ⟨by have := HQ.out; have := HK.out; subst_vars; rfl, rfl⟩
end Go.Proofs.Ytdcibeagljeioaa

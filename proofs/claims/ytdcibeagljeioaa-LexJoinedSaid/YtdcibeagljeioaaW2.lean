/- Chapter 06: a run of bytes that are so. -/
import Derived.Test.YtdcibeagljeioaaW1
import Derived.Deep.LoopGhost
import Derived.Deep.Draws
namespace Go.Proofs.Ytdcibeagljeioaa
open Go.ChangeShapes Go.WideShapes Go.ChangeAt Go.RowKit
set_option linter.unusedVariables false
set_option linter.unusedSimpArgs false
theorem grown_setCell {w c : World} {b o : Nat} (h : w.grownBy c (some b)) (v : Value) : w.grownBy (c.setCell ⟨b, o, none⟩ v) (some b) :=
  ⟨h.os, h.tape, h.output, by simpa using h.size, fun k hk hne => (heap_setCell_other c ⟨b, o, none⟩ k v (fun e => hne (by simp at e; rw [e]))).trans (h.block k hk hne)⟩
theorem grown_drewN {w c : World} {r : Option Nat} (h : w.grownBy c r) (n : Nat) : w.grownBy (c.drewN n) r := ⟨h.os, h.tape, h.output, h.size, h.block⟩
theorem At.drewN {w : World} {b : Nat} {s : ByteArray} {i : Nat} (h : At w b s i) (n : Nat) : At (w.drewN n) b s i := ⟨h.c0, h.c1, h.f1⟩
theorem At.set {w : World} {b : Nat} {s : ByteArray} {i : Nat} (h : At w b s i) (j : Nat) : At (w.setCell ⟨b, 1, none⟩ (.int .i64 j)) b s j :=
  ⟨by rw [World.cell?_setCell_other _ _ _ _ (by simp)]; exact h.c0, World.cell?_setCell_same _ _ _ h.c1, by rw [World.frozen?_setCell]; exact h.f1⟩
/-- how many bytes run from a place on -/
def rl (p : UInt8 → Bool) (l : Bs) (m : Nat) : Nat := min (l.takeWhile p).length m
theorem rl_succ {p : UInt8 → Bool} {l : Bs} {m k : Nat} (hk : k ≤ rl p l m) : k < rl p l m ↔ (k < m ∧ hd p (l.drop k) = true) := by
  unfold rl at hk ⊢
  have key : ∀ (l : Bs) (k : Nat), k ≤ (l.takeWhile p).length → (k < (l.takeWhile p).length ↔ hd p (l.drop k) = true) := by
    intro l
    induction l with
    | nil => intro k hk; simp at hk; subst hk; simp [hd]
    | cons c r ih =>
      intro k hk
      cases hc : p c
      · simp [hc] at hk; subst hk; simp [hd, hc]
      · simp only [List.takeWhile_cons, hc, if_true, List.length_cons] at hk ⊢
        cases k with
        | zero => simp [hd, hc]
        | succ k => simp only [List.drop_succ_cons]; rw [← ih k (by omega)]; omega
  have := key l k (by omega)
  rw [← this]; omega
theorem hd_drop {p : UInt8 → Bool} {s : ByteArray} {j : Nat} (h : j < s.size) : hd p (s.data.toList.drop j) = p s[j] := by
  rw [List.drop_eq_getElem_cons (by simpa using h)]; rfl
theorem hd_end {p : UInt8 → Bool} {s : ByteArray} {j : Nat} (h : s.size ≤ j) : hd p (s.data.toList.drop j) = false := by
  rw [List.drop_eq_nil_of_le (by simpa using h)]; rfl


set_option maxHeartbeats 4000000 in
theorem run_aln {w : World} {b : Nat} {s : ByteArray} {i : Nat} (h : At w b s i) (hs : s.size ≤ 100000) (hi : i ≤ s.size) (m : Nat) (hm : m ≤ 100000)  :
    Calls Try.prog 15 #[.pointer (some ⟨b, 0, none⟩), .func (.func 37) #[] #[], .int .i64 m] w fun e w' =>
      e = .returned (.string (s.extract i (i + rl alnB (s.data.toList.drop i) m))) ∧ At w' b s (i + rl alnB (s.data.toList.drop i) m) ∧ w.grownBy w' (some b) := by
  obtain ⟨n, hn⟩ : ∃ n, rl alnB (s.data.toList.drop i) m = n := ⟨_, rfl⟩
  have hN := Lib.hid hn
  rw [hn]
  have hnm : n ≤ m := by rw [← hn]; exact Nat.min_le_right _ _
  have hns : i + n ≤ s.size := by
    have h1 : n ≤ ((s.data.toList.drop i).takeWhile alnB).length := by rw [← hn]; exact Nat.min_le_left _ _
    have h2 := (List.takeWhile_prefix (p := alnB) (l := s.data.toList.drop i)).length_le
    simp at h2
    have : s.data.size = s.size := rfl
    omega
  clear hn
  have c1 := h.c1
  have c0 := h.c0
  go_enter Try.func15, Try.ntmps15
  go_wp2
  clear c0 c1
  go_loopg [44] n (fun g _ wr => ∃ k : Nat, k + g = n ∧ At wr b s (i + k) ∧ w.grownBy wr (some b))
  case atStart => exact ⟨0, by omega, h, World.grownBy.refl _ _⟩
  case round =>
    obtain ⟨k, hk, hA, hG⟩ := hrel
    obtain ⟨j, hj⟩ : ∃ j, j = i + k := ⟨_, rfl⟩
    rw [← hj] at hA
    have hJ := Lib.hid hj
    have hkm : k ≤ n := by omega
    have hji : i ≤ j := by omega
    have hjs : j ≤ s.size := by omega
    have step := rl_succ (p := alnB) (l := s.data.toList.drop i) (m := m) (k := k) (by rw [hN.out]; exact hkm)
    rw [hN.out, List.drop_drop, ← hj] at step
    have hmi : (j : Int) - (i : Int) = (k : Int) := by omega
    have hMI := Lib.hid hmi
    have b0 : (0 : Int) ≤ (j : Int) - (i : Int) := by omega
    have b1 : (j : Int) - (i : Int) ≤ 100000 := by omega
    obtain ⟨c0, c1, f1⟩ := hA
    have hA : At wr b s j := ⟨c0, c1, f1⟩
    by_cases hlt : k < n
    · obtain ⟨h1, h2⟩ := step.1 hlt
      have hjl : j < s.size := by
        rcases Nat.lt_or_ge j s.size with hh | hh
        · exact hh
        · rw [hd_end hh] at h2; cases h2
      rw [hd_drop hjl] at h2
      have d1 : decide (j < s.size) = true := decide_eq_true hjl
      have d2 : decide ((j : Int) - (i : Int) < (m : Int)) = true := decide_eq_true (by omega)
      have hq : ∀ W : World, w.grownBy W (some b) → Calls Try.prog 37 #[.int .u8 (s[j]'hjl).toNat] W fun e w' => e = .returned (.bool true) ∧ w' = W := fun W hW => by have := aln_any (s[j]'hjl) W; rw [h2] at this; exact this
      have hw : IntKind.i64.wrap ((j : Int) - (i : Int)) = (j : Int) - (i : Int) := IntWalk.i64_in _ (by omega)
      have hlt2 : k + 1 ≤ n := hlt
      clear hj hmi step hlt h1 h2
      go_wp2
      go_quiet ((go_at_call 37; exact Calls.quiet_of_same (hq _ (grown_drewN hG _))))
      clear hw
      go_wp2
      go_roundg (gk - 1)
      case measure => omega
      case rel =>
        refine ⟨k + 1, by omega, ?_, grown_setCell (grown_drewN hG _) _⟩
        have hJ' := hJ.out
        rw [show i + (k + 1) = j + 1 by omega]
        exact (hA.drewN _).set (j + 1)
    · have hkn : k = n := by omega
      have hw : IntKind.i64.wrap ((j : Int) - (i : Int)) = (j : Int) - (i : Int) := IntWalk.i64_in _ (by omega)
      have b2 : (j : Int) ≤ (s.size : Int) := by omega
      have b3 : (i : Int) ≤ (j : Int) := by omega
      have hC : (if decide (j < s.size) then (if decide (k < m) then 2 else 1) else 0 : Nat) ≤ 2 := by split <;> (try split) <;> omega
      by_cases q1 : j < s.size
      · have d1 : decide (j < s.size) = true := decide_eq_true q1
        by_cases q2 : k < m
        · have d2 : decide ((j : Int) - (i : Int) < (m : Int)) = true := decide_eq_true (by omega)
          have h2 : alnB (s[j]'q1) = false := by
            have h3 : ¬ (k < m ∧ hd alnB (List.drop j s.data.toList) = true) := fun q => hlt (step.2 q)
            rw [hd_drop q1] at h3
            cases hz : alnB (s[j]'q1)
            · rfl
            · exact absurd ⟨q2, hz⟩ h3
          have hq : ∀ W : World, w.grownBy W (some b) → Calls Try.prog 37 #[.int .u8 (s[j]'q1).toNat] W fun e w' => e = .returned (.bool false) ∧ w' = W := fun W hW => by have := aln_any (s[j]'q1) W; rw [h2] at this; exact this
          clear hj hmi step hlt h2 hC

          go_wp2
          go_quiet ((go_at_call 37; exact Calls.quiet_of_same (hq _ (grown_drewN hG _))))
          clear hw
          go_wp2
          go_quiet (fail)
          go_wp2
          go_ret
          have hJ' := hJ.out
          exact ⟨by rw [show i + n = j by omega]; rfl, by rw [show i + n = j by omega]; exact (hA.drewN _).drewN _, grown_drewN (grown_drewN hG _) _⟩

        · have d2 : decide ((j : Int) - (i : Int) < (m : Int)) = false := decide_eq_false (by omega)
          clear hj hmi step hlt hC

          go_wp2
          go_quiet (fail)
          clear hw
          go_wp2
          go_quiet (fail)
          go_wp2
          go_ret
          have hJ' := hJ.out
          exact ⟨by rw [show i + n = j by omega]; rfl, by rw [show i + n = j by omega]; exact (hA.drewN _).drewN _, grown_drewN (grown_drewN hG _) _⟩

      · have d1 : decide (j < s.size) = false := decide_eq_false q1
        clear hj hmi step hlt hC

        go_wp2
        go_quiet (fail)
        clear hw
        go_wp2
        go_quiet (fail)
        go_wp2
        go_ret
        have hJ' := hJ.out
        exact ⟨by rw [show i + n = j by omega]; rfl, by rw [show i + n = j by omega]; exact (hA.drewN _).drewN _, grown_drewN (grown_drewN hG _) _⟩


set_option maxHeartbeats 4000000 in
theorem run_dig {w : World} {b : Nat} {s : ByteArray} {i : Nat} (h : At w b s i) (hs : s.size ≤ 100000) (hi : i ≤ s.size) (m : Nat) (hm : m ≤ 100000)  :
    Calls Try.prog 15 #[.pointer (some ⟨b, 0, none⟩), .func (.func 27) #[] #[], .int .i64 m] w fun e w' =>
      e = .returned (.string (s.extract i (i + rl digB (s.data.toList.drop i) m))) ∧ At w' b s (i + rl digB (s.data.toList.drop i) m) ∧ w.grownBy w' (some b) := by
  obtain ⟨n, hn⟩ : ∃ n, rl digB (s.data.toList.drop i) m = n := ⟨_, rfl⟩
  have hN := Lib.hid hn
  rw [hn]
  have hnm : n ≤ m := by rw [← hn]; exact Nat.min_le_right _ _
  have hns : i + n ≤ s.size := by
    have h1 : n ≤ ((s.data.toList.drop i).takeWhile digB).length := by rw [← hn]; exact Nat.min_le_left _ _
    have h2 := (List.takeWhile_prefix (p := digB) (l := s.data.toList.drop i)).length_le
    simp at h2
    have : s.data.size = s.size := rfl
    omega
  clear hn
  have c1 := h.c1
  have c0 := h.c0
  go_enter Try.func15, Try.ntmps15
  go_wp2
  clear c0 c1
  go_loopg [44] n (fun g _ wr => ∃ k : Nat, k + g = n ∧ At wr b s (i + k) ∧ w.grownBy wr (some b))
  case atStart => exact ⟨0, by omega, h, World.grownBy.refl _ _⟩
  case round =>
    obtain ⟨k, hk, hA, hG⟩ := hrel
    obtain ⟨j, hj⟩ : ∃ j, j = i + k := ⟨_, rfl⟩
    rw [← hj] at hA
    have hJ := Lib.hid hj
    have hkm : k ≤ n := by omega
    have hji : i ≤ j := by omega
    have hjs : j ≤ s.size := by omega
    have step := rl_succ (p := digB) (l := s.data.toList.drop i) (m := m) (k := k) (by rw [hN.out]; exact hkm)
    rw [hN.out, List.drop_drop, ← hj] at step
    have hmi : (j : Int) - (i : Int) = (k : Int) := by omega
    have hMI := Lib.hid hmi
    have b0 : (0 : Int) ≤ (j : Int) - (i : Int) := by omega
    have b1 : (j : Int) - (i : Int) ≤ 100000 := by omega
    obtain ⟨c0, c1, f1⟩ := hA
    have hA : At wr b s j := ⟨c0, c1, f1⟩
    by_cases hlt : k < n
    · obtain ⟨h1, h2⟩ := step.1 hlt
      have hjl : j < s.size := by
        rcases Nat.lt_or_ge j s.size with hh | hh
        · exact hh
        · rw [hd_end hh] at h2; cases h2
      rw [hd_drop hjl] at h2
      have d1 : decide (j < s.size) = true := decide_eq_true hjl
      have d2 : decide ((j : Int) - (i : Int) < (m : Int)) = true := decide_eq_true (by omega)
      have hq : ∀ W : World, w.grownBy W (some b) → Calls Try.prog 27 #[.int .u8 (s[j]'hjl).toNat] W fun e w' => e = .returned (.bool true) ∧ w' = W := fun W hW => by have := dig_any (s[j]'hjl) W; rw [h2] at this; exact this
      have hw : IntKind.i64.wrap ((j : Int) - (i : Int)) = (j : Int) - (i : Int) := IntWalk.i64_in _ (by omega)
      have hlt2 : k + 1 ≤ n := hlt
      clear hj hmi step hlt h1 h2
      go_wp2
      go_quiet ((go_at_call 27; exact Calls.quiet_of_same (hq _ (grown_drewN hG _))))
      clear hw
      go_wp2
      go_roundg (gk - 1)
      case measure => omega
      case rel =>
        refine ⟨k + 1, by omega, ?_, grown_setCell (grown_drewN hG _) _⟩
        have hJ' := hJ.out
        rw [show i + (k + 1) = j + 1 by omega]
        exact (hA.drewN _).set (j + 1)
    · have hkn : k = n := by omega
      have hw : IntKind.i64.wrap ((j : Int) - (i : Int)) = (j : Int) - (i : Int) := IntWalk.i64_in _ (by omega)
      have b2 : (j : Int) ≤ (s.size : Int) := by omega
      have b3 : (i : Int) ≤ (j : Int) := by omega
      have hC : (if decide (j < s.size) then (if decide (k < m) then 2 else 1) else 0 : Nat) ≤ 2 := by split <;> (try split) <;> omega
      by_cases q1 : j < s.size
      · have d1 : decide (j < s.size) = true := decide_eq_true q1
        by_cases q2 : k < m
        · have d2 : decide ((j : Int) - (i : Int) < (m : Int)) = true := decide_eq_true (by omega)
          have h2 : digB (s[j]'q1) = false := by
            have h3 : ¬ (k < m ∧ hd digB (List.drop j s.data.toList) = true) := fun q => hlt (step.2 q)
            rw [hd_drop q1] at h3
            cases hz : digB (s[j]'q1)
            · rfl
            · exact absurd ⟨q2, hz⟩ h3
          have hq : ∀ W : World, w.grownBy W (some b) → Calls Try.prog 27 #[.int .u8 (s[j]'q1).toNat] W fun e w' => e = .returned (.bool false) ∧ w' = W := fun W hW => by have := dig_any (s[j]'q1) W; rw [h2] at this; exact this
          clear hj hmi step hlt h2 hC

          go_wp2
          go_quiet ((go_at_call 27; exact Calls.quiet_of_same (hq _ (grown_drewN hG _))))
          clear hw
          go_wp2
          go_quiet (fail)
          go_wp2
          go_ret
          have hJ' := hJ.out
          exact ⟨by rw [show i + n = j by omega]; rfl, by rw [show i + n = j by omega]; exact (hA.drewN _).drewN _, grown_drewN (grown_drewN hG _) _⟩

        · have d2 : decide ((j : Int) - (i : Int) < (m : Int)) = false := decide_eq_false (by omega)
          clear hj hmi step hlt hC

          go_wp2
          go_quiet (fail)
          clear hw
          go_wp2
          go_quiet (fail)
          go_wp2
          go_ret
          have hJ' := hJ.out
          exact ⟨by rw [show i + n = j by omega]; rfl, by rw [show i + n = j by omega]; exact (hA.drewN _).drewN _, grown_drewN (grown_drewN hG _) _⟩

      · have d1 : decide (j < s.size) = false := decide_eq_false q1
        clear hj hmi step hlt hC

        go_wp2
        go_quiet (fail)
        clear hw
        go_wp2
        go_quiet (fail)
        go_wp2
        go_ret
        have hJ' := hJ.out
        exact ⟨by rw [show i + n = j by omega]; rfl, by rw [show i + n = j by omega]; exact (hA.drewN _).drewN _, grown_drewN (grown_drewN hG _) _⟩


set_option maxHeartbeats 4000000 in
theorem run_notq {w : World} {b : Nat} {s : ByteArray} {i : Nat} (h : At w b s i) (hs : s.size ≤ 100000) (hi : i ≤ s.size) (m : Nat) (hm : m ≤ 100000)  :
    Calls Try.prog 15 #[.pointer (some ⟨b, 0, none⟩), .func (.func 38) #[] #[], .int .i64 m] w fun e w' =>
      e = .returned (.string (s.extract i (i + rl notQ (s.data.toList.drop i) m))) ∧ At w' b s (i + rl notQ (s.data.toList.drop i) m) ∧ w.grownBy w' (some b) := by
  obtain ⟨n, hn⟩ : ∃ n, rl notQ (s.data.toList.drop i) m = n := ⟨_, rfl⟩
  have hN := Lib.hid hn
  rw [hn]
  have hnm : n ≤ m := by rw [← hn]; exact Nat.min_le_right _ _
  have hns : i + n ≤ s.size := by
    have h1 : n ≤ ((s.data.toList.drop i).takeWhile notQ).length := by rw [← hn]; exact Nat.min_le_left _ _
    have h2 := (List.takeWhile_prefix (p := notQ) (l := s.data.toList.drop i)).length_le
    simp at h2
    have : s.data.size = s.size := rfl
    omega
  clear hn
  have c1 := h.c1
  have c0 := h.c0
  go_enter Try.func15, Try.ntmps15
  go_wp2
  clear c0 c1
  go_loopg [44] n (fun g _ wr => ∃ k : Nat, k + g = n ∧ At wr b s (i + k) ∧ w.grownBy wr (some b))
  case atStart => exact ⟨0, by omega, h, World.grownBy.refl _ _⟩
  case round =>
    obtain ⟨k, hk, hA, hG⟩ := hrel
    obtain ⟨j, hj⟩ : ∃ j, j = i + k := ⟨_, rfl⟩
    rw [← hj] at hA
    have hJ := Lib.hid hj
    have hkm : k ≤ n := by omega
    have hji : i ≤ j := by omega
    have hjs : j ≤ s.size := by omega
    have step := rl_succ (p := notQ) (l := s.data.toList.drop i) (m := m) (k := k) (by rw [hN.out]; exact hkm)
    rw [hN.out, List.drop_drop, ← hj] at step
    have hmi : (j : Int) - (i : Int) = (k : Int) := by omega
    have hMI := Lib.hid hmi
    have b0 : (0 : Int) ≤ (j : Int) - (i : Int) := by omega
    have b1 : (j : Int) - (i : Int) ≤ 100000 := by omega
    obtain ⟨c0, c1, f1⟩ := hA
    have hA : At wr b s j := ⟨c0, c1, f1⟩
    by_cases hlt : k < n
    · obtain ⟨h1, h2⟩ := step.1 hlt
      have hjl : j < s.size := by
        rcases Nat.lt_or_ge j s.size with hh | hh
        · exact hh
        · rw [hd_end hh] at h2; cases h2
      rw [hd_drop hjl] at h2
      have d1 : decide (j < s.size) = true := decide_eq_true hjl
      have d2 : decide ((j : Int) - (i : Int) < (m : Int)) = true := decide_eq_true (by omega)
      have hq : ∀ W : World, w.grownBy W (some b) → Calls Try.prog 38 #[.int .u8 (s[j]'hjl).toNat] W fun e w' => e = .returned (.bool true) ∧ w' = W := fun W hW => by have := notq_any (s[j]'hjl) W; rw [h2] at this; exact this
      have hw : IntKind.i64.wrap ((j : Int) - (i : Int)) = (j : Int) - (i : Int) := IntWalk.i64_in _ (by omega)
      have hlt2 : k + 1 ≤ n := hlt
      clear hj hmi step hlt h1 h2
      go_wp2
      go_quiet ((go_at_call 38; exact Calls.quiet_of_same (hq _ (grown_drewN hG _))))
      clear hw
      go_wp2
      go_roundg (gk - 1)
      case measure => omega
      case rel =>
        refine ⟨k + 1, by omega, ?_, grown_setCell (grown_drewN hG _) _⟩
        have hJ' := hJ.out
        rw [show i + (k + 1) = j + 1 by omega]
        exact (hA.drewN _).set (j + 1)
    · have hkn : k = n := by omega
      have hw : IntKind.i64.wrap ((j : Int) - (i : Int)) = (j : Int) - (i : Int) := IntWalk.i64_in _ (by omega)
      have b2 : (j : Int) ≤ (s.size : Int) := by omega
      have b3 : (i : Int) ≤ (j : Int) := by omega
      have hC : (if decide (j < s.size) then (if decide (k < m) then 2 else 1) else 0 : Nat) ≤ 2 := by split <;> (try split) <;> omega
      by_cases q1 : j < s.size
      · have d1 : decide (j < s.size) = true := decide_eq_true q1
        by_cases q2 : k < m
        · have d2 : decide ((j : Int) - (i : Int) < (m : Int)) = true := decide_eq_true (by omega)
          have h2 : notQ (s[j]'q1) = false := by
            have h3 : ¬ (k < m ∧ hd notQ (List.drop j s.data.toList) = true) := fun q => hlt (step.2 q)
            rw [hd_drop q1] at h3
            cases hz : notQ (s[j]'q1)
            · rfl
            · exact absurd ⟨q2, hz⟩ h3
          have hq : ∀ W : World, w.grownBy W (some b) → Calls Try.prog 38 #[.int .u8 (s[j]'q1).toNat] W fun e w' => e = .returned (.bool false) ∧ w' = W := fun W hW => by have := notq_any (s[j]'q1) W; rw [h2] at this; exact this
          clear hj hmi step hlt h2 hC

          go_wp2
          go_quiet ((go_at_call 38; exact Calls.quiet_of_same (hq _ (grown_drewN hG _))))
          clear hw
          go_wp2
          go_quiet (fail)
          go_wp2
          go_ret
          have hJ' := hJ.out
          exact ⟨by rw [show i + n = j by omega]; rfl, by rw [show i + n = j by omega]; exact (hA.drewN _).drewN _, grown_drewN (grown_drewN hG _) _⟩

        · have d2 : decide ((j : Int) - (i : Int) < (m : Int)) = false := decide_eq_false (by omega)
          clear hj hmi step hlt hC

          go_wp2
          go_quiet (fail)
          clear hw
          go_wp2
          go_quiet (fail)
          go_wp2
          go_ret
          have hJ' := hJ.out
          exact ⟨by rw [show i + n = j by omega]; rfl, by rw [show i + n = j by omega]; exact (hA.drewN _).drewN _, grown_drewN (grown_drewN hG _) _⟩

      · have d1 : decide (j < s.size) = false := decide_eq_false q1
        clear hj hmi step hlt hC

        go_wp2
        go_quiet (fail)
        clear hw
        go_wp2
        go_quiet (fail)
        go_wp2
        go_ret
        have hJ' := hJ.out
        exact ⟨by rw [show i + n = j by omega]; rfl, by rw [show i + n = j by omega]; exact (hA.drewN _).drewN _, grown_drewN (grown_drewN hG _) _⟩


set_option maxHeartbeats 4000000 in
theorem run_in {w : World} {b : Nat} {s : ByteArray} {i : Nat} (h : At w b s i) (hs : s.size ≤ 100000) (hi : i ≤ s.size) (m : Nat) (hm : m ≤ 100000) (some_ : ByteArray) (d : Nat) (hd_ : w.cell? ⟨d, 0, none⟩ = some (.string some_)) (hdb : d ≠ b) :
    Calls Try.prog 15 #[.pointer (some ⟨b, 0, none⟩), .func (.func 21) #[] #[.pointer (some ⟨d, 0, none⟩)], .int .i64 m] w fun e w' =>
      e = .returned (.string (s.extract i (i + rl (memB some_.data.toList) (s.data.toList.drop i) m))) ∧ At w' b s (i + rl (memB some_.data.toList) (s.data.toList.drop i) m) ∧ w.grownBy w' (some b) := by
  obtain ⟨n, hn⟩ : ∃ n, rl (memB some_.data.toList) (s.data.toList.drop i) m = n := ⟨_, rfl⟩
  have hN := Lib.hid hn
  rw [hn]
  have hnm : n ≤ m := by rw [← hn]; exact Nat.min_le_right _ _
  have hns : i + n ≤ s.size := by
    have h1 : n ≤ ((s.data.toList.drop i).takeWhile (memB some_.data.toList)).length := by rw [← hn]; exact Nat.min_le_left _ _
    have h2 := (List.takeWhile_prefix (p := (memB some_.data.toList)) (l := s.data.toList.drop i)).length_le
    simp at h2
    have : s.data.size = s.size := rfl
    omega
  clear hn
  have c1 := h.c1
  have c0 := h.c0
  go_enter Try.func15, Try.ntmps15
  go_wp2
  clear c0 c1
  go_loopg [44] n (fun g _ wr => ∃ k : Nat, k + g = n ∧ At wr b s (i + k) ∧ w.grownBy wr (some b))
  case atStart => exact ⟨0, by omega, h, World.grownBy.refl _ _⟩
  case round =>
    obtain ⟨k, hk, hA, hG⟩ := hrel
    obtain ⟨j, hj⟩ : ∃ j, j = i + k := ⟨_, rfl⟩
    rw [← hj] at hA
    have hJ := Lib.hid hj
    have hkm : k ≤ n := by omega
    have hji : i ≤ j := by omega
    have hjs : j ≤ s.size := by omega
    have step := rl_succ (p := (memB some_.data.toList)) (l := s.data.toList.drop i) (m := m) (k := k) (by rw [hN.out]; exact hkm)
    rw [hN.out, List.drop_drop, ← hj] at step
    have hmi : (j : Int) - (i : Int) = (k : Int) := by omega
    have hMI := Lib.hid hmi
    have b0 : (0 : Int) ≤ (j : Int) - (i : Int) := by omega
    have b1 : (j : Int) - (i : Int) ≤ 100000 := by omega
    obtain ⟨c0, c1, f1⟩ := hA
    have hA : At wr b s j := ⟨c0, c1, f1⟩
    by_cases hlt : k < n
    · obtain ⟨h1, h2⟩ := step.1 hlt
      have hjl : j < s.size := by
        rcases Nat.lt_or_ge j s.size with hh | hh
        · exact hh
        · rw [hd_end hh] at h2; cases h2
      rw [hd_drop hjl] at h2
      have d1 : decide (j < s.size) = true := decide_eq_true hjl
      have d2 : decide ((j : Int) - (i : Int) < (m : Int)) = true := decide_eq_true (by omega)
      have hq : ∀ W : World, w.grownBy W (some b) → Calls Try.prog 21 #[.int .u8 (s[j]'hjl).toNat, .pointer (some ⟨d, 0, none⟩)] W fun e w' => e = .returned (.bool true) ∧ w' = W := fun W hW => by have := in_any some_ (s[j]'hjl) W d (hW.cell (a := ⟨d, 0, none⟩) hd_ (by simpa using hdb)); rw [h2] at this; exact this
      have hw : IntKind.i64.wrap ((j : Int) - (i : Int)) = (j : Int) - (i : Int) := IntWalk.i64_in _ (by omega)
      have hlt2 : k + 1 ≤ n := hlt
      clear hj hmi step hlt h1 h2
      go_wp2
      go_quiet ((go_at_call 21; exact Calls.quiet_of_same (hq _ (grown_drewN hG _))))
      clear hw
      go_wp2
      go_roundg (gk - 1)
      case measure => omega
      case rel =>
        refine ⟨k + 1, by omega, ?_, grown_setCell (grown_drewN hG _) _⟩
        have hJ' := hJ.out
        rw [show i + (k + 1) = j + 1 by omega]
        exact (hA.drewN _).set (j + 1)
    · have hkn : k = n := by omega
      have hw : IntKind.i64.wrap ((j : Int) - (i : Int)) = (j : Int) - (i : Int) := IntWalk.i64_in _ (by omega)
      have b2 : (j : Int) ≤ (s.size : Int) := by omega
      have b3 : (i : Int) ≤ (j : Int) := by omega
      have hC : (if decide (j < s.size) then (if decide (k < m) then 2 else 1) else 0 : Nat) ≤ 2 := by split <;> (try split) <;> omega
      by_cases q1 : j < s.size
      · have d1 : decide (j < s.size) = true := decide_eq_true q1
        by_cases q2 : k < m
        · have d2 : decide ((j : Int) - (i : Int) < (m : Int)) = true := decide_eq_true (by omega)
          have h2 : (memB some_.data.toList) (s[j]'q1) = false := by
            have h3 : ¬ (k < m ∧ hd (memB some_.data.toList) (List.drop j s.data.toList) = true) := fun q => hlt (step.2 q)
            rw [hd_drop q1] at h3
            cases hz : (memB some_.data.toList) (s[j]'q1)
            · rfl
            · exact absurd ⟨q2, hz⟩ h3
          have hq : ∀ W : World, w.grownBy W (some b) → Calls Try.prog 21 #[.int .u8 (s[j]'q1).toNat, .pointer (some ⟨d, 0, none⟩)] W fun e w' => e = .returned (.bool false) ∧ w' = W := fun W hW => by have := in_any some_ (s[j]'q1) W d (hW.cell (a := ⟨d, 0, none⟩) hd_ (by simpa using hdb)); rw [h2] at this; exact this
          clear hj hmi step hlt h2 hC

          go_wp2
          go_quiet ((go_at_call 21; exact Calls.quiet_of_same (hq _ (grown_drewN hG _))))
          clear hw
          go_wp2
          go_quiet (fail)
          go_wp2
          go_ret
          have hJ' := hJ.out
          exact ⟨by rw [show i + n = j by omega]; rfl, by rw [show i + n = j by omega]; exact (hA.drewN _).drewN _, grown_drewN (grown_drewN hG _) _⟩

        · have d2 : decide ((j : Int) - (i : Int) < (m : Int)) = false := decide_eq_false (by omega)
          clear hj hmi step hlt hC

          go_wp2
          go_quiet (fail)
          clear hw
          go_wp2
          go_quiet (fail)
          go_wp2
          go_ret
          have hJ' := hJ.out
          exact ⟨by rw [show i + n = j by omega]; rfl, by rw [show i + n = j by omega]; exact (hA.drewN _).drewN _, grown_drewN (grown_drewN hG _) _⟩

      · have d1 : decide (j < s.size) = false := decide_eq_false q1
        clear hj hmi step hlt hC

        go_wp2
        go_quiet (fail)
        clear hw
        go_wp2
        go_quiet (fail)
        go_wp2
        go_ret
        have hJ' := hJ.out
        exact ⟨by rw [show i + n = j by omega]; rfl, by rw [show i + n = j by omega]; exact (hA.drewN _).drewN _, grown_drewN (grown_drewN hG _) _⟩

end Go.Proofs.Ytdcibeagljeioaa

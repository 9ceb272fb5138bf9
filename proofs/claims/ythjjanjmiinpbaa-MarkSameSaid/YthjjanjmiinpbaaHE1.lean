/- Chapter 02: contracts of pointers, each, Objects. -/
import Derived.Test.YthjjanjmiinpbaaHPart
import Derived.Test.YthjjanjmiinpbaaHM1
import Derived.Test.YthjjanjmiinpbaaRR1
namespace Go.Proofs.Ythjjanjmiinpbaa
open Go.ChangeShapes Go.WideShapes Go.ChangeAt Go.RowKit Go.Deep Go.Joins Go.Maps
set_option linter.unusedVariables false
set_option linter.unusedSimpArgs false

set_option maxRecDepth 100000 in
set_option maxHeartbeats 8000000 in
theorem pointers_any {w : World} {s bw sz t nf : Nat} {fm : Int} (c0 : w.cell? ⟨s, 0, none⟩ = some (.slice (some ⟨bw, 0, none⟩) sz sz)) (ct : w.cell? ⟨bw, t, none⟩ = some (.int .i64 (4 * (nf : Int) + fm))) (f0 : 0 ≤ fm) (f2 : fm ≤ 2) (h3 : 3 ≤ t) (hfit : t + nf + 3 ≤ sz) (hsz : sz ≤ 131072) :
    Calls Try.prog 60 #[.pointer (some ⟨s, 0, none⟩), .int .i64 (t : Int)] w fun e w' => ∃ v, e = .returned v ∧ Ints w' w.heap.size v (prsV t nf fm) ∧ Below w.heap.size w w' := by
  obtain ⟨i0, hi, hz0, hz1, hz2⟩ := info_parts infoI
  obtain ⟨x, hx⟩ : ∃ x, 4 * (nf : Int) + fm = x := ⟨_, rfl⟩
  have hand := and_3 x
  have hx4 : x % 4 = fm := by omega
  have hxd : x / 4 = (nf : Int) := by omega
  rw [hx] at ct
  rw [hx4] at hand
  have hls := cell_lt c0
  have hlb := cell_lt ct
  have g0 : (0 : Int) ≤ (t : Int) := by omega
  have g1 : (t : Int) < (sz : Int) := by omega
  clear hx hx4
  by_cases hf : fm = 0
  · have e0 : (fm == 0) = true := by simpa using hf
    have HV : Hid (prsV t nf fm = ((t : Int) + 1) :: (List.range nf).map (fun i : Nat => (t : Int) + 3 + (i : Int))) := by show _ = _; unfold prsV; rw [if_pos hf]
    have hfree : (w.alloc (.cells #[.int .i64 ((t : Int) + 1)] 3)).cell? ⟨s, 0, none⟩ = some (.slice (some ⟨bw, 0, none⟩) sz sz) := by rw [World.cell?_alloc_lt _ _ _ hls]; exact c0
    clear hf
    go_enter Try.func60, Try.ntmps60
    go_wp2_with fail
    go_loopw [5, 27] (fun v i wr => ∃ k : Nat, k ≤ nf ∧ i = .int .i64 k ∧ wr.ownsRow w.heap.size 3 1 v (k + 1) ((((t : Int) + 1) :: (List.range k).map (fun i : Nat => (t : Int) + 3 + (i : Int))).map (Value.int .i64)) ∧ Below w.heap.size w wr) (fun _ i _ => nf - (intOf i).toNat)
    case atStart =>
      refine ⟨0, Nat.zero_le _, rfl, ?_, (Below.refl _ _).alloc (Nat.le_refl _) _⟩
      exact World.ownsRow_lit (size := 1) w #[.int .i64 ((t : Int) + 1)] 1 (Nat.le_refl _) (by decide) rfl
    case round =>
      obtain ⟨k, hk, rfl, hown, hBw⟩ := hrel
      have hws := hBw.size
      have HB := Lib.hid hBw
      have HOWN := Lib.hid hown
      clear hown hBw
      by_cases hlt : k < nf
      · have d1 : decide (k < nf) = true := decide_eq_true hlt
        go_wp2_with (at_builtin; refine wpList_append_own _ rfl _ _ 23 rfl w.heap.size 3 i0 (.int .i64 0) 1 8 Try.underlying23 hi hz0 hz1 hz2 rfl (by decide) _ _ _ rfl (HOWN.out.alloc _) ⟨wr.heap.size, 0, none⟩ 1 1 [.int .i64 ((t : Int) + 3 + (k : Int))] rfl rfl (cells_newN _ _ _ _ (by simp)) (by simp [Value.oneCell']) (by unfold maxLen; omega) (by omega) (by simp only [World.size_alloc]; omega) ?_; intro v2 w2 hown3 hg2 _)
        go_roundw
        case rel =>
          have hb2 := below_of_append (HOWN.out.alloc (.cells #[.int .i64 ((t : Int) + 3 + (k : Int))] 3)) hg2 (by simp only [World.size_alloc]; omega)
          refine ⟨k + 1, hlt, by go_num, ?_, ((HB.out.alloc hws _).trans hb2)⟩
          rw [List.range_succ, List.map_append, ← List.cons_append, List.map_append]
          simp only [List.map_cons, List.map_nil]
          exact hown3
        case measure => simp [intOf]; omega
      · have hkn : k = nf := by omega
        have d1 : decide (k < nf) = false := decide_eq_false hlt
        clear hlt
        subst hkn
        go_wp2_with fail
        go_ret
        refine ⟨_, rfl, ?_, HB.out⟩
        rw [HV.out]
        unfold Ints
        have := HOWN.out
        simpa using this
  · have e0 : (fm == 0) = false := by simpa using hf
    have HV : Hid (prsV t nf fm = [(t : Int) + 1]) := by show _ = _; unfold prsV; rw [if_neg hf]
    have hfree : (w.alloc (.cells #[.int .i64 ((t : Int) + 1)] 3)).cell? ⟨s, 0, none⟩ = some (.slice (some ⟨bw, 0, none⟩) sz sz) := by rw [World.cell?_alloc_lt _ _ _ hls]; exact c0
    clear hf
    go_enter Try.func60, Try.ntmps60
    go_wp2_with fail
    go_ret
    refine ⟨_, rfl, ?_, (Below.refl _ _).alloc (Nat.le_refl _) _⟩
    rw [HV.out]
    exact World.ownsRow_lit (size := 1) w #[.int .i64 ((t : Int) + 1)] 1 (Nat.le_refl _) (by decide) rfl

set_option maxRecDepth 100000 in
set_option maxHeartbeats 8000000 in
theorem each_objects {w : World} {s bw sz n : Nat} {c0 : Value} {A NF : Nat → Nat} (P : Nat → World → Prop) (h0 : P 0 w) (hA0 : A 0 = 3) (hA : ∀ k, k < n → A (k + 1) = A k + (NF k + 3)) (hmono : ∀ k, k < n → A k < A n) (hsz : A n ≤ sz ∧ sz ≤ 131072)
    (hend : ∀ k w', k ≤ n → P k w' → w'.cell? ⟨s, 1, none⟩ = some (.int .i64 (A n : Int)))
    (hwords : ∀ k w', k < n → P k w' → w'.cell? ⟨s, 0, none⟩ = some (.slice (some ⟨bw, 0, none⟩) sz sz) ∧ ∃ x : Int, w'.cell? ⟨bw, A k, none⟩ = some (.int .i64 x) ∧ x / 4 = (NF k : Int))
    (hcall : ∀ k w', k < n → P k w' → Calls Try.prog 44 #[.int .i64 (A k : Int), c0] w' fun e w'' => e = .returned (.tuple #[]) ∧ P (k + 1) w'') :
    Calls Try.prog 43 #[.pointer (some ⟨s, 0, none⟩), .func (.func 44) #[] #[c0]] w fun e w' => e = .returned (.tuple #[]) ∧ P n w' := by
  have H0 := Lib.hid h0
  have HA := Lib.hid hA
  have HMO := Lib.hid hmono
  have HEND := Lib.hid hend
  have HW := Lib.hid hwords
  have HC := Lib.hid hcall
  have HA0 := Lib.hid hA0
  obtain ⟨hs1, hs2⟩ := hsz
  obtain ⟨an, han⟩ : ∃ an, A n = an := ⟨_, rfl⟩
  have HAN := Lib.hid han
  rw [han] at hs1
  clear h0 hA hmono hend hwords hcall hA0 han
  go_enter Try.func43, Try.ntmps43
  go_wp2_with fail
  go_loopw [4] (fun a wr => ∃ k : Nat, k ≤ n ∧ a = .int .i64 (A k : Int) ∧ P k wr) (fun a _ => an - (intOf a).toNat)
  case atStart => exact ⟨0, Nat.zero_le _, by rw [HA0.out]; rfl, H0.out⟩
  case round =>
    obtain ⟨k, hk, rfl, hp⟩ := hrel
    have HP := Lib.hid hp
    clear hp
    have hce := HEND.out k wr hk HP.out
    rw [HAN.out] at hce
    by_cases hlt : k < n
    · have hm := HMO.out k hlt
      rw [HAN.out] at hm
      obtain ⟨hcw, x, hcx, hx4⟩ := HW.out k wr hlt HP.out
      have hs := HA.out k hlt
      have hcl := HC.out k wr hlt HP.out
      obtain ⟨a, ha⟩ : ∃ a, A k = a := ⟨_, rfl⟩
      obtain ⟨nf, hnf⟩ : ∃ nf, NF k = nf := ⟨_, rfl⟩
      have hle : A (k + 1) ≤ an := by
        rcases Nat.lt_or_ge (k + 1) n with q | q
        · have := HMO.out (k + 1) q; rw [HAN.out] at this; omega
        · obtain rfl : k + 1 = n := by omega
          rw [HAN.out]; exact Nat.le_refl _
      rw [ha] at hm hcx hs hcl ⊢
      rw [hnf] at hx4 hs
      have HS : Hid (A (k + 1) = a + (nf + 3)) := hs
      rw [hs] at hle
      have d1 : decide (a < an) = true := decide_eq_true hm
      have g0 : (0 : Int) ≤ (a : Int) := by omega
      have g1 : (a : Int) < (sz : Int) := by omega
      have HCL := Lib.hid hcl
      clear hcl hs ha hnf
      go_wp2_with (go_at_call 44; (with_reducible refine HCL.out.mono ?_); rintro e w1 ⟨rfl, hp1⟩; have HP1 := Lib.hid hp1; clear hp1)
      go_roundw
      case rel => exact ⟨k + 1, hlt, by rw [HS.out]; exact congrArg (Value.int .i64) (by omega), HP1.out⟩
      case measure => simp [intOf]; omega
    · obtain rfl : k = n := by omega
      rw [HAN.out]
      have d1 : decide (an < an) = false := decide_eq_false (by omega)
      go_wp2_with fail
      go_end0
      exact ⟨rfl, HP.out⟩

set_option maxRecDepth 100000 in
set_option maxHeartbeats 8000000 in
theorem each_keep {w : World} {s bw sz n : Nat} {c0 c1 c2 c3 c4 : Value} {A NF : Nat → Nat} (P : Nat → World → Prop) (h0 : P 0 w) (hA0 : A 0 = 3) (hA : ∀ k, k < n → A (k + 1) = A k + (NF k + 3)) (hmono : ∀ k, k < n → A k < A n) (hsz : A n ≤ sz ∧ sz ≤ 131072)
    (hend : ∀ k w', k ≤ n → P k w' → w'.cell? ⟨s, 1, none⟩ = some (.int .i64 (A n : Int)))
    (hwords : ∀ k w', k < n → P k w' → w'.cell? ⟨s, 0, none⟩ = some (.slice (some ⟨bw, 0, none⟩) sz sz) ∧ ∃ x : Int, w'.cell? ⟨bw, A k, none⟩ = some (.int .i64 x) ∧ x / 4 = (NF k : Int))
    (hcall : ∀ k w', k < n → P k w' → Calls Try.prog 59 #[.int .i64 (A k : Int), c0, c1, c2, c3, c4] w' fun e w'' => e = .returned (.tuple #[]) ∧ P (k + 1) w'') :
    Calls Try.prog 43 #[.pointer (some ⟨s, 0, none⟩), .func (.func 59) #[] #[c0, c1, c2, c3, c4]] w fun e w' => e = .returned (.tuple #[]) ∧ P n w' := by
  have H0 := Lib.hid h0
  have HA := Lib.hid hA
  have HMO := Lib.hid hmono
  have HEND := Lib.hid hend
  have HW := Lib.hid hwords
  have HC := Lib.hid hcall
  have HA0 := Lib.hid hA0
  obtain ⟨hs1, hs2⟩ := hsz
  obtain ⟨an, han⟩ : ∃ an, A n = an := ⟨_, rfl⟩
  have HAN := Lib.hid han
  rw [han] at hs1
  clear h0 hA hmono hend hwords hcall hA0 han
  go_enter Try.func43, Try.ntmps43
  go_wp2_with fail
  go_loopw [4] (fun a wr => ∃ k : Nat, k ≤ n ∧ a = .int .i64 (A k : Int) ∧ P k wr) (fun a _ => an - (intOf a).toNat)
  case atStart => exact ⟨0, Nat.zero_le _, by rw [HA0.out]; rfl, H0.out⟩
  case round =>
    obtain ⟨k, hk, rfl, hp⟩ := hrel
    have HP := Lib.hid hp
    clear hp
    have hce := HEND.out k wr hk HP.out
    rw [HAN.out] at hce
    by_cases hlt : k < n
    · have hm := HMO.out k hlt
      rw [HAN.out] at hm
      obtain ⟨hcw, x, hcx, hx4⟩ := HW.out k wr hlt HP.out
      have hs := HA.out k hlt
      have hcl := HC.out k wr hlt HP.out
      obtain ⟨a, ha⟩ : ∃ a, A k = a := ⟨_, rfl⟩
      obtain ⟨nf, hnf⟩ : ∃ nf, NF k = nf := ⟨_, rfl⟩
      have hle : A (k + 1) ≤ an := by
        rcases Nat.lt_or_ge (k + 1) n with q | q
        · have := HMO.out (k + 1) q; rw [HAN.out] at this; omega
        · obtain rfl : k + 1 = n := by omega
          rw [HAN.out]; exact Nat.le_refl _
      rw [ha] at hm hcx hs hcl ⊢
      rw [hnf] at hx4 hs
      have HS : Hid (A (k + 1) = a + (nf + 3)) := hs
      rw [hs] at hle
      have d1 : decide (a < an) = true := decide_eq_true hm
      have g0 : (0 : Int) ≤ (a : Int) := by omega
      have g1 : (a : Int) < (sz : Int) := by omega
      have HCL := Lib.hid hcl
      clear hcl hs ha hnf
      go_wp2_with (go_at_call 59; (with_reducible refine HCL.out.mono ?_); rintro e w1 ⟨rfl, hp1⟩; have HP1 := Lib.hid hp1; clear hp1)
      go_roundw
      case rel => exact ⟨k + 1, hlt, by rw [HS.out]; exact congrArg (Value.int .i64) (by omega), HP1.out⟩
      case measure => simp [intOf]; omega
    · obtain rfl : k = n := by omega
      rw [HAN.out]
      have d1 : decide (an < an) = false := decide_eq_false (by omega)
      go_wp2_with fail
      go_end0
      exact ⟨rfl, HP.out⟩

set_option maxRecDepth 100000 in
set_option maxHeartbeats 8000000 in
theorem each_move {w : World} {s bw sz n : Nat} {c0 c1 c2 c3 : Value} {A NF : Nat → Nat} (P : Nat → World → Prop) (h0 : P 0 w) (hA0 : A 0 = 3) (hA : ∀ k, k < n → A (k + 1) = A k + (NF k + 3)) (hmono : ∀ k, k < n → A k < A n) (hsz : A n ≤ sz ∧ sz ≤ 131072)
    (hend : ∀ k w', k ≤ n → P k w' → w'.cell? ⟨s, 1, none⟩ = some (.int .i64 (A n : Int)))
    (hwords : ∀ k w', k < n → P k w' → w'.cell? ⟨s, 0, none⟩ = some (.slice (some ⟨bw, 0, none⟩) sz sz) ∧ ∃ x : Int, w'.cell? ⟨bw, A k, none⟩ = some (.int .i64 x) ∧ x / 4 = (NF k : Int))
    (hcall : ∀ k w', k < n → P k w' → Calls Try.prog 71 #[.int .i64 (A k : Int), c0, c1, c2, c3] w' fun e w'' => e = .returned (.tuple #[]) ∧ P (k + 1) w'') :
    Calls Try.prog 43 #[.pointer (some ⟨s, 0, none⟩), .func (.func 71) #[] #[c0, c1, c2, c3]] w fun e w' => e = .returned (.tuple #[]) ∧ P n w' := by
  have H0 := Lib.hid h0
  have HA := Lib.hid hA
  have HMO := Lib.hid hmono
  have HEND := Lib.hid hend
  have HW := Lib.hid hwords
  have HC := Lib.hid hcall
  have HA0 := Lib.hid hA0
  obtain ⟨hs1, hs2⟩ := hsz
  obtain ⟨an, han⟩ : ∃ an, A n = an := ⟨_, rfl⟩
  have HAN := Lib.hid han
  rw [han] at hs1
  clear h0 hA hmono hend hwords hcall hA0 han
  go_enter Try.func43, Try.ntmps43
  go_wp2_with fail
  go_loopw [4] (fun a wr => ∃ k : Nat, k ≤ n ∧ a = .int .i64 (A k : Int) ∧ P k wr) (fun a _ => an - (intOf a).toNat)
  case atStart => exact ⟨0, Nat.zero_le _, by rw [HA0.out]; rfl, H0.out⟩
  case round =>
    obtain ⟨k, hk, rfl, hp⟩ := hrel
    have HP := Lib.hid hp
    clear hp
    have hce := HEND.out k wr hk HP.out
    rw [HAN.out] at hce
    by_cases hlt : k < n
    · have hm := HMO.out k hlt
      rw [HAN.out] at hm
      obtain ⟨hcw, x, hcx, hx4⟩ := HW.out k wr hlt HP.out
      have hs := HA.out k hlt
      have hcl := HC.out k wr hlt HP.out
      obtain ⟨a, ha⟩ : ∃ a, A k = a := ⟨_, rfl⟩
      obtain ⟨nf, hnf⟩ : ∃ nf, NF k = nf := ⟨_, rfl⟩
      have hle : A (k + 1) ≤ an := by
        rcases Nat.lt_or_ge (k + 1) n with q | q
        · have := HMO.out (k + 1) q; rw [HAN.out] at this; omega
        · obtain rfl : k + 1 = n := by omega
          rw [HAN.out]; exact Nat.le_refl _
      rw [ha] at hm hcx hs hcl ⊢
      rw [hnf] at hx4 hs
      have HS : Hid (A (k + 1) = a + (nf + 3)) := hs
      rw [hs] at hle
      have d1 : decide (a < an) = true := decide_eq_true hm
      have g0 : (0 : Int) ≤ (a : Int) := by omega
      have g1 : (a : Int) < (sz : Int) := by omega
      have HCL := Lib.hid hcl
      clear hcl hs ha hnf
      go_wp2_with (go_at_call 71; (with_reducible refine HCL.out.mono ?_); rintro e w1 ⟨rfl, hp1⟩; have HP1 := Lib.hid hp1; clear hp1)
      go_roundw
      case rel => exact ⟨k + 1, hlt, by rw [HS.out]; exact congrArg (Value.int .i64) (by omega), HP1.out⟩
      case measure => simp [intOf]; omega
    · obtain rfl : k = n := by omega
      rw [HAN.out]
      have d1 : decide (an < an) = false := decide_eq_false (by omega)
      go_wp2_with fail
      go_end0
      exact ⟨rfl, HP.out⟩
end Go.Proofs.Ythjjanjmiinpbaa

/- Contracts: equal code is told the same. -/
import Derived.Test.YtnjfjebmkajpbaaM4
namespace Go.Proofs.Ytnjfjebmkajpbaa
open Go.ChangeShapes Go.WideShapes Go.ChangeAt Go.RowKit Go.Deep Go.Joins
set_option linter.unusedVariables false
set_option linter.unusedSimpArgs false

theorem neqI (x y z : Int) (w : World) : (binOp .neq 37 (.agg #[.int .i64 x, .int .i64 y, .int .i64 z]) (.agg #[.int .i64 x, .int .i64 y, .int .i64 z])).run Try.prog w = .ok (.bool false) w := by
  simp [go_sem]
theorem code_same {w0 w : World} {A B : Option Addr} {n c d : Nat} {C : Nat → Ins} (hA : IsCode w0 A n C) (hA' : IsCode w0 B n C) (hn : n ≤ 1000) (hB : Below w0.heap.size w0 w) :
    Calls Try.prog 15 #[.slice A n c, .slice B n d] w fun e w' => e = .returned (.bool true) ∧ Below w.heap.size w w' := by
  have hI : Inv w0 w w w := Inv.start hB (Below.refl _ _)
  clear hB
  go_enter Try.func15, Try.ntmps15
  go_wp2_with fail
  go_loopw [5] (fun i wr => ∃ k : Nat, k ≤ n ∧ i = .int .i64 k ∧ Inv w0 w w wr) (fun i _ => n - (intOf i).toNat)
  case atStart => exact ⟨0, Nat.zero_le _, rfl, hI⟩
  case round =>
    clear hI
    obtain ⟨k, hk, rfl, hI⟩ := hrel
    by_cases hlt : k < n
    · have hlt' : decide (k < n) = true := decide_eq_true hlt
      obtain ⟨g, off, rfl, hgl, c0, c1, c2⟩ := hA.at_ hI.b0 hlt
      obtain ⟨g', off', rfl, hgl', e0, e1, e2⟩ := hA'.at_ hI.b0 hlt
      obtain ⟨i, hi⟩ : ∃ i, C k = i := ⟨_, rfl⟩
      rw [hi] at c0 c1 c2 e0 e1 e2
      have hq := neqI
      clear hA hA' hi
      go_wp2_with fail
      go_quiet (fail)
      go_wp2
      go_roundw
      case rel => exact ⟨k + 1, by omega, by go_num, hI.go (by (repeat' (first | (with_reducible exact Below.refl _ _) | (with_reducible assumption) | (with_reducible refine below_drewN ?_ _) | (with_reducible refine Below.alloc ?_ ?_ _) | (with_reducible refine Below.drew ?_) | (with_reducible refine Below.setCell ?_ ?_ _) | go_size)))⟩
      case measure => simp [intOf]; omega
    · have hkn : k = n := by omega
      have hlt' : decide (k < n) = false := decide_eq_false hlt
      go_wp2
      go_ret
      exact ⟨rfl, hI.bw⟩
end Go.Proofs.Ytnjfjebmkajpbaa

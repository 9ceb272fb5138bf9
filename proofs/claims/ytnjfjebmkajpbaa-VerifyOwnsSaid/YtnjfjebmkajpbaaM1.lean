/- Contracts: equal lists are told equal. -/
import Derived.Test.YtnjfjebmkajpbaaK7
namespace Go.Proofs.Ytnjfjebmkajpbaa
open Go.ChangeShapes Go.WideShapes Go.ChangeAt Go.RowKit Go.Deep Go.Joins
set_option linter.unusedVariables false
set_option linter.unusedSimpArgs false

theorem same_any {w0 w : World} {A B : Option Addr} {n c d : Nat} {F : Nat → Int} (hA : Row w0 A n 1 (fun i _ => .int .i64 (F i))) (hA' : Row w0 B n 1 (fun i _ => .int .i64 (F i))) (hn : n ≤ 1000) (hB : Below w0.heap.size w0 w) :
    Calls Try.prog 11 #[.slice A n c, .slice B n d] w fun e w' => e = .returned (.bool true) ∧ Below w.heap.size w w' := by
  have hI : Inv w0 w w w := Inv.start hB (Below.refl _ _)
  clear hB
  go_enter Try.func11, Try.ntmps11
  go_wp2_with fail
  go_loopw [5] (fun i wr => ∃ k : Nat, k ≤ n ∧ i = .int .i64 k ∧ Inv w0 w w wr) (fun i _ => n - (intOf i).toNat)
  case atStart => exact ⟨0, Nat.zero_le _, rfl, hI⟩
  case round =>
    clear hI
    obtain ⟨k, hk, rfl, hI⟩ := hrel
    by_cases hlt : k < n
    · have hlt' : decide (k < n) = true := decide_eq_true hlt
      obtain ⟨g, off, rfl, hgl, hc⟩ := hA (by omega)
      obtain ⟨g', off', rfl, hgl', hc'⟩ := hA' (by omega)
      have c0 := (hI.b0.cell (p := ⟨g, off + k * 1 + 0, none⟩) hgl).trans (hc k hlt 0 (by omega))
      have c1 := (hI.b0.cell (p := ⟨g', off' + k * 1 + 0, none⟩) hgl').trans (hc' k hlt 0 (by omega))
      simp only [Nat.mul_one, Nat.add_zero] at c0 c1
      clear hc hc' hA hA'
      go_wp2_with fail
      go_quiet (fail)
      go_wp2
      go_roundw
      case rel => exact ⟨k + 1, by omega, by go_num, hI.go (by (repeat' (first | (with_reducible exact Below.refl _ _) | (with_reducible assumption) | (with_reducible refine below_drewN ?_ _) | (with_reducible refine Below.alloc ?_ ?_ _) | (with_reducible refine Below.drew ?_) | (with_reducible refine Below.setCell ?_ ?_ _) | go_size)))⟩
      case measure => simp [intOf]; omega
    · have hkn : k = n := by omega
      have hlt' : decide (k < n) = false := decide_eq_false hlt
      go_wp2
      go_ret
      exact ⟨rfl, hI.bw⟩
end Go.Proofs.Ytnjfjebmkajpbaa

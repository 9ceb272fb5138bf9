/- Contracts of the functions of chapter 1 (words and numbers), and of its references. -/
import Derived.Test.YtfinpgkehjbcpaaChecked
import Derived.Test.YtfinpgkehjbcpaaWPlain
import Derived.Handy
import Derived.Lib.Hide
import Derived.Lib.Mul64
import Derived.Laws.Bits64b
import Derived.RegionTactic
import Derived.Deep.QuietTactic
import Derived.BigQuiet
import Derived.Outline
namespace Go.Proofs.Ytfinpgkehjbcpaa
open Go.ChangeShapes Go.WideShapes Go.ChangeAt Go.RowKit

/-- the world but for draws -/
def Drew (w w' : World) : Prop := ∃ n, w' = w.drewN n
theorem Drew.refl (w : World) : Drew w w := ⟨0, rfl⟩

theorem in_any (n lo hi : Int) (w : World) :
    Calls Try.prog 92 #[.int .i64 n, .int .i64 lo, .int .i64 hi] w fun e w' => e = .returned (.bool (decide (lo ≤ n) && decide (n ≤ hi))) ∧ w' = w := by
  by_cases h : lo ≤ n
  · go_enter Try.func92, Try.ntmps92
    go_wp2
    go_ret
    refine ⟨?_, rfl⟩
    simp [h]
  · go_enter Try.func92, Try.ntmps92
    go_wp2
    go_ret
    refine ⟨?_, rfl⟩
    have h : ¬ lo ≤ n := by omega
    simp [h]

end Go.Proofs.Ytfinpgkehjbcpaa

/- Contracts: how many parts a literal has, whole. -/
import Derived.Test.YtnjfjebmkajpbaaM3
namespace Go.Proofs.Ytnjfjebmkajpbaa
open Go.ChangeShapes Go.WideShapes Go.ChangeAt Go.RowKit
set_option linter.unusedVariables false
set_option linter.unusedSimpArgs false

theorem parts_any {w0 : World} {t : LitT} {g : Nat → Value} (h : IsLit w0 t g) : ∀ (w : World) (most : Int), Below w0.heap.size w0 w → -1000000 ≤ most → most ≤ 1000000 → Calls Try.prog 16 #[.agg #[g 0, g 1, g 2, g 3], .int .i64 most] w (PartsPost t most w) := by
  induction h with
  | node k s n ks p c F f h0 h1 h2 h3 h4 h5 h6 h7 h8 ih =>
    intro w most hB hm1 hm2
    rw [h0, h1, h2, h3]
    exact parts_node k s n ks p c w most h4 h5 hm1 hm2 hB h7 h8 (fun i hi w' most' hB' a b => ih i hi w' most' hB' a b)
end Go.Proofs.Ytnjfjebmkajpbaa

/- Chapter 05: an object is read. -/
import Derived.Test.YtfinpgkehjbcpaaIN0
import Derived.Test.YtfinpgkehjbcpaaIN1
import Derived.Test.YtfinpgkehjbcpaaIN2
namespace Go.Proofs.Ytfinpgkehjbcpaa
open Go.ChangeShapes Go.WideShapes Go.ChangeAt Go.RowKit Go.Deep Go.Joins Go.Maps
set_option linter.unusedVariables false
set_option linter.unusedSimpArgs false
theorem robject_any' {w : World} {rb bb : Nat} {σ : RdS} (h : RS w rb bb σ) (hbb : bb < w.heap.size) : Calls Try.prog 48 #[.pointer (some ⟨rb, 0, none⟩)] w fun e w' => ∃ v, e = .returned (.agg #[.int .i64 ((objR σ).1.fmt : Int), .int .i64 (objR σ).1.hash, .int .i64 ((objR σ).1.cls : Int), v]) ∧ Ints w' w.heap.size v (objR σ).1.F ∧ RS w' rb bb (objR σ).2 ∧ Turns (rset rb) w w' := by
  have hle := cntR_le 2 σ
  rcases (show (cntR 2 σ).1 = 0 ∨ (cntR 2 σ).1 = 1 ∨ (cntR 2 σ).1 = 2 by omega) with q | q | q
  · exact robject_0 h hbb q
  · exact robject_1 h hbb q
  · exact robject_2 h hbb q
end Go.Proofs.Ytfinpgkehjbcpaa

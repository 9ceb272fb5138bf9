/- Chapter 02: the contract of Turn's step. -/
import Derived.Test.YthjjanjmiinpbaaHT0
import Derived.StillTailTactics
namespace Go.Proofs.Ythjjanjmiinpbaa
open Go.ChangeShapes Go.WideShapes Go.ChangeAt Go.RowKit Go.Deep Go.Joins Go.Maps
set_option linter.unusedVariables false
set_option linter.unusedSimpArgs false

end Go.Proofs.Ythjjanjmiinpbaa

/-
  No cell of these rows narrows 'for every input' (looked for: loops, veiled, ifaces, maps, wideKeys, modest, calm, conditions, laid).
  DERIVED. THE GIVEN ROWS OF THIS SEAT. 6 by the template 'for every input the law returns true; each argument reads behind the call as it read before'; 0 by the template 'total and deterministic' (their statements: YthjjanjmiinpbaaTotals.lean).
  GIVEN WITH THE SEED: the statements are not yours to turn. If you find one false, say at which input.
  Laid BY PROGRAM, IN A SANDBOX (cutbox-rows.mjs): the forced cells as the released guide's own fill.sh prints them over the translation cc2db009e96a4056… (all of the seat's roots in one cut). By AI agents, Wed Nov 11 2026. No macro, syntax, notation, axiom, sorry.
-/
import Derived.Test.YthjjanjmiinpbaaChecked
import GoSem.Claim
import GoSem.ClaimJoined
import GoSem.ClaimMapViews
import Derived.JoinedTies
import Derived.KernelRfl
namespace Go.Proofs.Ythjjanjmiinpbaa
/- THE CELL 'sum', in the pinned program and in every row, IS THE sha256 OF THE DUMP (.gsa) THAT YthjjanjmiinpbaaProg.lean LOADS. Nothing in Lean hashes anything: it is a label: what it is worth is what the hold of that sum in a sandbox is worth. -/
noncomputable def Try.pinned : Pinned := { name := "ythjjanjmiinpbaa", sum := "cc2db009e96a40569919a38e06061f1bfe75f3ab2ead679dd850368fab40d071", checked := Try.checked }
namespace Rows
def none {H : Type} : Left H := { results := [], args := [] }

/-- 'vivariumlaw03.MarkAll': WHATEVER THE INPUT: true; the input reads as it did. -/
def markAllSpec : ChangeSpec := { name := "markAll", fn := fun _ => fun
  | [d1, d2] => { results := [.lit (.bool true)], args := [d1, d2] }
  | _ => none }
def markAllRow : OpenClaim := { program := "ythjjanjmiinpbaa", sum := "cc2db009e96a40569919a38e06061f1bfe75f3ab2ead679dd850368fab40d071", func := "vivarium/vivariumlaw03.MarkAll", spec := "markAll", unfollowed := true, recurses := true, apart := false }
def MarkAllSaid : Prop := markAllRow.holds Try.pinned (OpenSpec.ofChange markAllSpec)

/-- ITS FALSE NEIGHBOUR: 'it returns false'. Refute it at one input. -/
def markAllWrong : ChangeSpec := { name := "markAll", fn := fun _ => fun
  | [d1, d2] => { results := [.lit (.bool false)], args := [d1, d2] }
  | _ => none }
def MarkAllWrongFalsely : Prop := markAllRow.holds Try.pinned (OpenSpec.ofChange markAllWrong)

/-- 'vivariumlaw03.MarkOwns': WHATEVER THE INPUT: true; the input reads as it did. -/
def markOwnsSpec : ChangeSpec := { name := "markOwns", fn := fun _ => fun
  | [d1, d2] => { results := [.lit (.bool true)], args := [d1, d2] }
  | _ => none }
def markOwnsRow : OpenClaim := { program := "ythjjanjmiinpbaa", sum := "cc2db009e96a40569919a38e06061f1bfe75f3ab2ead679dd850368fab40d071", func := "vivarium/vivariumlaw03.MarkOwns", spec := "markOwns", unfollowed := true, recurses := true, apart := false }
def MarkOwnsSaid : Prop := markOwnsRow.holds Try.pinned (OpenSpec.ofChange markOwnsSpec)

/-- ITS FALSE NEIGHBOUR: 'it returns false'. Refute it at one input. -/
def markOwnsWrong : ChangeSpec := { name := "markOwns", fn := fun _ => fun
  | [d1, d2] => { results := [.lit (.bool false)], args := [d1, d2] }
  | _ => none }
def MarkOwnsWrongFalsely : Prop := markOwnsRow.holds Try.pinned (OpenSpec.ofChange markOwnsWrong)

/-- 'vivariumlaw03.MarkUnion': WHATEVER THE INPUT: true; the input reads as it did. -/
def markUnionSpec : ChangeSpec := { name := "markUnion", fn := fun _ => fun
  | [d1, d2, d3] => { results := [.lit (.bool true)], args := [d1, d2, d3] }
  | _ => none }
def markUnionRow : OpenClaim := { program := "ythjjanjmiinpbaa", sum := "cc2db009e96a40569919a38e06061f1bfe75f3ab2ead679dd850368fab40d071", func := "vivarium/vivariumlaw03.MarkUnion", spec := "markUnion", unfollowed := true, recurses := true, apart := false }
def MarkUnionSaid : Prop := markUnionRow.holds Try.pinned (OpenSpec.ofChange markUnionSpec)

/-- ITS FALSE NEIGHBOUR: 'it returns false'. Refute it at one input. -/
def markUnionWrong : ChangeSpec := { name := "markUnion", fn := fun _ => fun
  | [d1, d2, d3] => { results := [.lit (.bool false)], args := [d1, d2, d3] }
  | _ => none }
def MarkUnionWrongFalsely : Prop := markUnionRow.holds Try.pinned (OpenSpec.ofChange markUnionWrong)

/-- 'vivariumlaw03.MarkSame': WHATEVER THE INPUT: true; the input reads as it did. -/
def markSameSpec : ChangeSpec := { name := "markSame", fn := fun _ => fun
  | [d1, d2] => { results := [.lit (.bool true)], args := [d1, d2] }
  | _ => none }
def markSameRow : OpenClaim := { program := "ythjjanjmiinpbaa", sum := "cc2db009e96a40569919a38e06061f1bfe75f3ab2ead679dd850368fab40d071", func := "vivarium/vivariumlaw03.MarkSame", spec := "markSame", unfollowed := true, recurses := true, apart := false }
def MarkSameSaid : Prop := markSameRow.holds Try.pinned (OpenSpec.ofChange markSameSpec)

/-- ITS FALSE NEIGHBOUR: 'it returns false'. Refute it at one input. -/
def markSameWrong : ChangeSpec := { name := "markSame", fn := fun _ => fun
  | [d1, d2] => { results := [.lit (.bool false)], args := [d1, d2] }
  | _ => none }
def MarkSameWrongFalsely : Prop := markSameRow.holds Try.pinned (OpenSpec.ofChange markSameWrong)

/-- 'vivariumlaw03.MarkReaches': WHATEVER THE INPUT: true; the input reads as it did. -/
def markReachesSpec : ChangeSpec := { name := "markReaches", fn := fun _ => fun
  | [d1, d2] => { results := [.lit (.bool true)], args := [d1, d2] }
  | _ => none }
def markReachesRow : OpenClaim := { program := "ythjjanjmiinpbaa", sum := "cc2db009e96a40569919a38e06061f1bfe75f3ab2ead679dd850368fab40d071", func := "vivarium/vivariumlaw03.MarkReaches", spec := "markReaches", unfollowed := true, recurses := true, apart := false }
def MarkReachesSaid : Prop := markReachesRow.holds Try.pinned (OpenSpec.ofChange markReachesSpec)

/-- ITS FALSE NEIGHBOUR: 'it returns false'. Refute it at one input. -/
def markReachesWrong : ChangeSpec := { name := "markReaches", fn := fun _ => fun
  | [d1, d2] => { results := [.lit (.bool false)], args := [d1, d2] }
  | _ => none }
def MarkReachesWrongFalsely : Prop := markReachesRow.holds Try.pinned (OpenSpec.ofChange markReachesWrong)

/-- 'vivariumlaw03.MarkCollects': WHATEVER THE INPUT: true; the input reads as it did. -/
def markCollectsSpec : ChangeSpec := { name := "markCollects", fn := fun _ => fun
  | [d1, d2] => { results := [.lit (.bool true)], args := [d1, d2] }
  | _ => none }
def markCollectsRow : OpenClaim := { program := "ythjjanjmiinpbaa", sum := "cc2db009e96a40569919a38e06061f1bfe75f3ab2ead679dd850368fab40d071", func := "vivarium/vivariumlaw03.MarkCollects", spec := "markCollects", unfollowed := true, recurses := true, apart := false }
def MarkCollectsSaid : Prop := markCollectsRow.holds Try.pinned (OpenSpec.ofChange markCollectsSpec)

/-- ITS FALSE NEIGHBOUR: 'it returns false'. Refute it at one input. -/
def markCollectsWrong : ChangeSpec := { name := "markCollects", fn := fun _ => fun
  | [d1, d2] => { results := [.lit (.bool false)], args := [d1, d2] }
  | _ => none }
def MarkCollectsWrongFalsely : Prop := markCollectsRow.holds Try.pinned (OpenSpec.ofChange markCollectsWrong)

/- THE SECOND FORM. 'bulk': how many values and letters a reading holds, each counted each time it is reached (what is shared counts as often as it is met; a slice's spare places count too). A statement '..UptoSaid' is the law's where the arguments, and the package variables that the reading takes, are together of bulk at most 1048576: NARROWER than '..Said'. Prove '..Said' where nothing that the law and all that it calls make is longer than what came in: it says more and counts as full. Else prove '..UptoSaid'. A law counts once. -/
mutual
def uptoBulk {H : Type} : DataW H → Nat
  | .lit (.string bytes) => bytes.length + 1
  | .lit _ => 1
  | .nil => 1
  | .ptr d => uptoBulk d + 1
  | .slice elems spare => uptoBulkAll elems + uptoBulkAll spare + 1
  | .agg parts => uptoBulkAll parts + 1
  | .iface _ d => uptoBulk d + 1
  | .map entries => uptoBulkEntries entries + 1
  | .held _ => 1
def uptoBulkAll {H : Type} : List (DataW H) → Nat
  | [] => 0
  | d :: r => uptoBulk d + uptoBulkAll r
def uptoBulkEntries {H : Type} : List (Lit × DataW H) → Nat
  | [] => 0
  | x :: r => uptoBulkEntry x + uptoBulkEntries r
def uptoBulkEntry {H : Type} : Lit × DataW H → Nat
  | (.string bytes, d) => bytes.length + uptoBulk d + 1
  | (_, d) => uptoBulk d + 1
 end
def uptoSmall : (H : Type) → List (DataW H) → Bool := fun _ ds => decide (uptoBulkAll ds ≤ 1048576)
def OpenSpec.upto (s : _root_.Go.ChangeSpec) : _root_.Go.OpenSpec := { _root_.Go.OpenSpec.ofChange s with cond := some uptoSmall }

/-- 'vivariumlaw03.MarkAll', WHERE WHAT IT READS IS OF BULK AT MOST 1048576: true; the input reads as it did. -/
def markAllUptoRow : OpenClaim := { program := "ythjjanjmiinpbaa", sum := "cc2db009e96a40569919a38e06061f1bfe75f3ab2ead679dd850368fab40d071", func := "vivarium/vivariumlaw03.MarkAll", spec := "markAll", unfollowed := true, recurses := true, apart := false, narrowed := true }
def MarkAllUptoSaid : Prop := markAllUptoRow.holds Try.pinned (OpenSpec.upto markAllSpec)

/-- 'vivariumlaw03.MarkOwns', WHERE WHAT IT READS IS OF BULK AT MOST 1048576: true; the input reads as it did. -/
def markOwnsUptoRow : OpenClaim := { program := "ythjjanjmiinpbaa", sum := "cc2db009e96a40569919a38e06061f1bfe75f3ab2ead679dd850368fab40d071", func := "vivarium/vivariumlaw03.MarkOwns", spec := "markOwns", unfollowed := true, recurses := true, apart := false, narrowed := true }
def MarkOwnsUptoSaid : Prop := markOwnsUptoRow.holds Try.pinned (OpenSpec.upto markOwnsSpec)

/-- 'vivariumlaw03.MarkUnion', WHERE WHAT IT READS IS OF BULK AT MOST 1048576: true; the input reads as it did. -/
def markUnionUptoRow : OpenClaim := { program := "ythjjanjmiinpbaa", sum := "cc2db009e96a40569919a38e06061f1bfe75f3ab2ead679dd850368fab40d071", func := "vivarium/vivariumlaw03.MarkUnion", spec := "markUnion", unfollowed := true, recurses := true, apart := false, narrowed := true }
def MarkUnionUptoSaid : Prop := markUnionUptoRow.holds Try.pinned (OpenSpec.upto markUnionSpec)

/-- 'vivariumlaw03.MarkSame', WHERE WHAT IT READS IS OF BULK AT MOST 1048576: true; the input reads as it did. -/
def markSameUptoRow : OpenClaim := { program := "ythjjanjmiinpbaa", sum := "cc2db009e96a40569919a38e06061f1bfe75f3ab2ead679dd850368fab40d071", func := "vivarium/vivariumlaw03.MarkSame", spec := "markSame", unfollowed := true, recurses := true, apart := false, narrowed := true }
def MarkSameUptoSaid : Prop := markSameUptoRow.holds Try.pinned (OpenSpec.upto markSameSpec)

/-- 'vivariumlaw03.MarkReaches', WHERE WHAT IT READS IS OF BULK AT MOST 1048576: true; the input reads as it did. -/
def markReachesUptoRow : OpenClaim := { program := "ythjjanjmiinpbaa", sum := "cc2db009e96a40569919a38e06061f1bfe75f3ab2ead679dd850368fab40d071", func := "vivarium/vivariumlaw03.MarkReaches", spec := "markReaches", unfollowed := true, recurses := true, apart := false, narrowed := true }
def MarkReachesUptoSaid : Prop := markReachesUptoRow.holds Try.pinned (OpenSpec.upto markReachesSpec)

/-- 'vivariumlaw03.MarkCollects', WHERE WHAT IT READS IS OF BULK AT MOST 1048576: true; the input reads as it did. -/
def markCollectsUptoRow : OpenClaim := { program := "ythjjanjmiinpbaa", sum := "cc2db009e96a40569919a38e06061f1bfe75f3ab2ead679dd850368fab40d071", func := "vivarium/vivariumlaw03.MarkCollects", spec := "markCollects", unfollowed := true, recurses := true, apart := false, narrowed := true }
def MarkCollectsUptoSaid : Prop := markCollectsUptoRow.holds Try.pinned (OpenSpec.upto markCollectsSpec)

end Rows
end Go.Proofs.Ythjjanjmiinpbaa

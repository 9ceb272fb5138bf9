/-
  No cell of these rows narrows 'for every input' (looked for: loops, veiled, ifaces, maps, wideKeys, modest, calm, conditions, laid).
  DERIVED. THE GIVEN ROWS OF THIS SEAT. 7 by the template 'for every input the law returns true; each argument reads behind the call as it read before'; 0 by the template 'total and deterministic' (their statements: YthonodimjglnfaaTotals.lean).
  GIVEN WITH THE SEED: the statements are not yours to turn. If you find one false, say at which input.
  Laid BY PROGRAM, IN A SANDBOX (cutbox-rows.mjs): the forced cells as the released guide's own fill.sh prints them over the translation 3c63b1cdfee97cbb… (all of the seat's roots in one cut). By AI agents, Wed Nov 11 2026. No macro, syntax, notation, axiom, sorry.
-/
import Derived.Test.YthonodimjglnfaaChecked
import GoSem.Claim
import GoSem.ClaimJoined
import GoSem.ClaimMapViews
import Derived.JoinedTies
import Derived.KernelRfl
namespace Go.Proofs.Ythonodimjglnfaa
/- THE CELL 'sum', in the pinned program and in every row, IS THE sha256 OF THE DUMP (.gsa) THAT YthonodimjglnfaaProg.lean LOADS. Nothing in Lean hashes anything: it is a label: what it is worth is what the hold of that sum in a sandbox is worth. -/
noncomputable def Try.pinned : Pinned := { name := "ythonodimjglnfaa", sum := "3c63b1cdfee97cbb9fca133b2a4f84091170ca45e1ee04956212f04f704a588b", checked := Try.checked }
namespace Rows
def none {H : Type} : Left H := { results := [], args := [] }

/-- 'vivariumlaw04.SwapFinds': WHATEVER THE INPUT: true; the input reads as it did. -/
def swapFindsSpec : ChangeSpec := { name := "swapFinds", fn := fun _ => fun
  | [d1, d2] => { results := [.lit (.bool true)], args := [d1, d2] }
  | _ => none }
def swapFindsRow : OpenClaim := { program := "ythonodimjglnfaa", sum := "3c63b1cdfee97cbb9fca133b2a4f84091170ca45e1ee04956212f04f704a588b", func := "vivarium/vivariumlaw04.SwapFinds", spec := "swapFinds", unfollowed := true, recurses := true, apart := false }
def SwapFindsSaid : Prop := swapFindsRow.holds Try.pinned (OpenSpec.ofChange swapFindsSpec)

/-- ITS FALSE NEIGHBOUR: 'it returns false'. Refute it at one input. -/
def swapFindsWrong : ChangeSpec := { name := "swapFinds", fn := fun _ => fun
  | [d1, d2] => { results := [.lit (.bool false)], args := [d1, d2] }
  | _ => none }
def SwapFindsWrongFalsely : Prop := swapFindsRow.holds Try.pinned (OpenSpec.ofChange swapFindsWrong)

/-- 'vivariumlaw04.SwapOwns': WHATEVER THE INPUT: true; the input reads as it did. -/
def swapOwnsSpec : ChangeSpec := { name := "swapOwns", fn := fun _ => fun
  | [d1, d2, d3, d4] => { results := [.lit (.bool true)], args := [d1, d2, d3, d4] }
  | _ => none }
def swapOwnsRow : OpenClaim := { program := "ythonodimjglnfaa", sum := "3c63b1cdfee97cbb9fca133b2a4f84091170ca45e1ee04956212f04f704a588b", func := "vivarium/vivariumlaw04.SwapOwns", spec := "swapOwns", unfollowed := true, recurses := true, apart := false }
def SwapOwnsSaid : Prop := swapOwnsRow.holds Try.pinned (OpenSpec.ofChange swapOwnsSpec)

/-- ITS FALSE NEIGHBOUR: 'it returns false'. Refute it at one input. -/
def swapOwnsWrong : ChangeSpec := { name := "swapOwns", fn := fun _ => fun
  | [d1, d2, d3, d4] => { results := [.lit (.bool false)], args := [d1, d2, d3, d4] }
  | _ => none }
def SwapOwnsWrongFalsely : Prop := swapOwnsRow.holds Try.pinned (OpenSpec.ofChange swapOwnsWrong)

/-- 'vivariumlaw04.SwapReaches': WHATEVER THE INPUT: true; the input reads as it did. -/
def swapReachesSpec : ChangeSpec := { name := "swapReaches", fn := fun _ => fun
  | [d1, d2, d3] => { results := [.lit (.bool true)], args := [d1, d2, d3] }
  | _ => none }
def swapReachesRow : OpenClaim := { program := "ythonodimjglnfaa", sum := "3c63b1cdfee97cbb9fca133b2a4f84091170ca45e1ee04956212f04f704a588b", func := "vivarium/vivariumlaw04.SwapReaches", spec := "swapReaches", unfollowed := true, recurses := true, apart := false }
def SwapReachesSaid : Prop := swapReachesRow.holds Try.pinned (OpenSpec.ofChange swapReachesSpec)

/-- ITS FALSE NEIGHBOUR: 'it returns false'. Refute it at one input. -/
def swapReachesWrong : ChangeSpec := { name := "swapReaches", fn := fun _ => fun
  | [d1, d2, d3] => { results := [.lit (.bool false)], args := [d1, d2, d3] }
  | _ => none }
def SwapReachesWrongFalsely : Prop := swapReachesRow.holds Try.pinned (OpenSpec.ofChange swapReachesWrong)

/-- 'vivariumlaw04.SwapGone': WHATEVER THE INPUT: true; the input reads as it did. -/
def swapGoneSpec : ChangeSpec := { name := "swapGone", fn := fun _ => fun
  | [d1, d2, d3] => { results := [.lit (.bool true)], args := [d1, d2, d3] }
  | _ => none }
def swapGoneRow : OpenClaim := { program := "ythonodimjglnfaa", sum := "3c63b1cdfee97cbb9fca133b2a4f84091170ca45e1ee04956212f04f704a588b", func := "vivarium/vivariumlaw04.SwapGone", spec := "swapGone", unfollowed := true, recurses := true, apart := false }
def SwapGoneSaid : Prop := swapGoneRow.holds Try.pinned (OpenSpec.ofChange swapGoneSpec)

/-- ITS FALSE NEIGHBOUR: 'it returns false'. Refute it at one input. -/
def swapGoneWrong : ChangeSpec := { name := "swapGone", fn := fun _ => fun
  | [d1, d2, d3] => { results := [.lit (.bool false)], args := [d1, d2, d3] }
  | _ => none }
def SwapGoneWrongFalsely : Prop := swapGoneRow.holds Try.pinned (OpenSpec.ofChange swapGoneWrong)

/-- 'vivariumlaw04.SwapBoth': WHATEVER THE INPUT: true; the input reads as it did. -/
def swapBothSpec : ChangeSpec := { name := "swapBoth", fn := fun _ => fun
  | [d1, d2, d3, d4] => { results := [.lit (.bool true)], args := [d1, d2, d3, d4] }
  | _ => none }
def swapBothRow : OpenClaim := { program := "ythonodimjglnfaa", sum := "3c63b1cdfee97cbb9fca133b2a4f84091170ca45e1ee04956212f04f704a588b", func := "vivarium/vivariumlaw04.SwapBoth", spec := "swapBoth", unfollowed := true, recurses := true, apart := false }
def SwapBothSaid : Prop := swapBothRow.holds Try.pinned (OpenSpec.ofChange swapBothSpec)

/-- ITS FALSE NEIGHBOUR: 'it returns false'. Refute it at one input. -/
def swapBothWrong : ChangeSpec := { name := "swapBoth", fn := fun _ => fun
  | [d1, d2, d3, d4] => { results := [.lit (.bool false)], args := [d1, d2, d3, d4] }
  | _ => none }
def SwapBothWrongFalsely : Prop := swapBothRow.holds Try.pinned (OpenSpec.ofChange swapBothWrong)

/-- 'vivariumlaw04.SwapOne': WHATEVER THE INPUT: true; the input reads as it did. -/
def swapOneSpec : ChangeSpec := { name := "swapOne", fn := fun _ => fun
  | [d1, d2, d3, d4] => { results := [.lit (.bool true)], args := [d1, d2, d3, d4] }
  | _ => none }
def swapOneRow : OpenClaim := { program := "ythonodimjglnfaa", sum := "3c63b1cdfee97cbb9fca133b2a4f84091170ca45e1ee04956212f04f704a588b", func := "vivarium/vivariumlaw04.SwapOne", spec := "swapOne", unfollowed := true, recurses := true, apart := false }
def SwapOneSaid : Prop := swapOneRow.holds Try.pinned (OpenSpec.ofChange swapOneSpec)

/-- ITS FALSE NEIGHBOUR: 'it returns false'. Refute it at one input. -/
def swapOneWrong : ChangeSpec := { name := "swapOne", fn := fun _ => fun
  | [d1, d2, d3, d4] => { results := [.lit (.bool false)], args := [d1, d2, d3, d4] }
  | _ => none }
def SwapOneWrongFalsely : Prop := swapOneRow.holds Try.pinned (OpenSpec.ofChange swapOneWrong)

/-- 'vivariumlaw04.SwapTwice': WHATEVER THE INPUT: true; the input reads as it did. -/
def swapTwiceSpec : ChangeSpec := { name := "swapTwice", fn := fun _ => fun
  | [d1, d2, d3, d4] => { results := [.lit (.bool true)], args := [d1, d2, d3, d4] }
  | _ => none }
def swapTwiceRow : OpenClaim := { program := "ythonodimjglnfaa", sum := "3c63b1cdfee97cbb9fca133b2a4f84091170ca45e1ee04956212f04f704a588b", func := "vivarium/vivariumlaw04.SwapTwice", spec := "swapTwice", unfollowed := true, recurses := true, apart := false }
def SwapTwiceSaid : Prop := swapTwiceRow.holds Try.pinned (OpenSpec.ofChange swapTwiceSpec)

/-- ITS FALSE NEIGHBOUR: 'it returns false'. Refute it at one input. -/
def swapTwiceWrong : ChangeSpec := { name := "swapTwice", fn := fun _ => fun
  | [d1, d2, d3, d4] => { results := [.lit (.bool false)], args := [d1, d2, d3, d4] }
  | _ => none }
def SwapTwiceWrongFalsely : Prop := swapTwiceRow.holds Try.pinned (OpenSpec.ofChange swapTwiceWrong)

/- THE SECOND FORM. 'bulk': how many values and letters a reading holds, each counted each time it is reached (what is shared counts as often as it is met; a slice's spare places count too). A statement '..UptoSaid' is the law's where the arguments, and the package variables that the reading takes, are together of bulk at most 1048576: NARROWER than '..Said'. Prove '..Said' where nothing that the law and all that it calls make is longer than what came in: it says more and counts as full. Else prove '..UptoSaid'. A law counts once. -/
mutual
def uptoBulk {H : Type} : DataW H → Nat
  | .lit (.string bytes) => bytes.length + 1
  | .lit _ => 1
  | .nil => 1
  | .ptr d => uptoBulk d + 1
  | .slice elems spare => uptoBulkAll elems + uptoBulkAll spare + 1
  | .agg parts => uptoBulkAll parts + 1
  | .iface _ d => uptoBulk d + 1
  | .map entries => uptoBulkEntries entries + 1
  | .held _ => 1
def uptoBulkAll {H : Type} : List (DataW H) → Nat
  | [] => 0
  | d :: r => uptoBulk d + uptoBulkAll r
def uptoBulkEntries {H : Type} : List (Lit × DataW H) → Nat
  | [] => 0
  | x :: r => uptoBulkEntry x + uptoBulkEntries r
def uptoBulkEntry {H : Type} : Lit × DataW H → Nat
  | (.string bytes, d) => bytes.length + uptoBulk d + 1
  | (_, d) => uptoBulk d + 1
 end
def uptoSmall : (H : Type) → List (DataW H) → Bool := fun _ ds => decide (uptoBulkAll ds ≤ 1048576)
def OpenSpec.upto (s : _root_.Go.ChangeSpec) : _root_.Go.OpenSpec := { _root_.Go.OpenSpec.ofChange s with cond := some uptoSmall }

/-- 'vivariumlaw04.SwapFinds', WHERE WHAT IT READS IS OF BULK AT MOST 1048576: true; the input reads as it did. -/
def swapFindsUptoRow : OpenClaim := { program := "ythonodimjglnfaa", sum := "3c63b1cdfee97cbb9fca133b2a4f84091170ca45e1ee04956212f04f704a588b", func := "vivarium/vivariumlaw04.SwapFinds", spec := "swapFinds", unfollowed := true, recurses := true, apart := false, narrowed := true }
def SwapFindsUptoSaid : Prop := swapFindsUptoRow.holds Try.pinned (OpenSpec.upto swapFindsSpec)

/-- 'vivariumlaw04.SwapOwns', WHERE WHAT IT READS IS OF BULK AT MOST 1048576: true; the input reads as it did. -/
def swapOwnsUptoRow : OpenClaim := { program := "ythonodimjglnfaa", sum := "3c63b1cdfee97cbb9fca133b2a4f84091170ca45e1ee04956212f04f704a588b", func := "vivarium/vivariumlaw04.SwapOwns", spec := "swapOwns", unfollowed := true, recurses := true, apart := false, narrowed := true }
def SwapOwnsUptoSaid : Prop := swapOwnsUptoRow.holds Try.pinned (OpenSpec.upto swapOwnsSpec)

/-- 'vivariumlaw04.SwapReaches', WHERE WHAT IT READS IS OF BULK AT MOST 1048576: true; the input reads as it did. -/
def swapReachesUptoRow : OpenClaim := { program := "ythonodimjglnfaa", sum := "3c63b1cdfee97cbb9fca133b2a4f84091170ca45e1ee04956212f04f704a588b", func := "vivarium/vivariumlaw04.SwapReaches", spec := "swapReaches", unfollowed := true, recurses := true, apart := false, narrowed := true }
def SwapReachesUptoSaid : Prop := swapReachesUptoRow.holds Try.pinned (OpenSpec.upto swapReachesSpec)

/-- 'vivariumlaw04.SwapGone', WHERE WHAT IT READS IS OF BULK AT MOST 1048576: true; the input reads as it did. -/
def swapGoneUptoRow : OpenClaim := { program := "ythonodimjglnfaa", sum := "3c63b1cdfee97cbb9fca133b2a4f84091170ca45e1ee04956212f04f704a588b", func := "vivarium/vivariumlaw04.SwapGone", spec := "swapGone", unfollowed := true, recurses := true, apart := false, narrowed := true }
def SwapGoneUptoSaid : Prop := swapGoneUptoRow.holds Try.pinned (OpenSpec.upto swapGoneSpec)

/-- 'vivariumlaw04.SwapBoth', WHERE WHAT IT READS IS OF BULK AT MOST 1048576: true; the input reads as it did. -/
def swapBothUptoRow : OpenClaim := { program := "ythonodimjglnfaa", sum := "3c63b1cdfee97cbb9fca133b2a4f84091170ca45e1ee04956212f04f704a588b", func := "vivarium/vivariumlaw04.SwapBoth", spec := "swapBoth", unfollowed := true, recurses := true, apart := false, narrowed := true }
def SwapBothUptoSaid : Prop := swapBothUptoRow.holds Try.pinned (OpenSpec.upto swapBothSpec)

/-- 'vivariumlaw04.SwapOne', WHERE WHAT IT READS IS OF BULK AT MOST 1048576: true; the input reads as it did. -/
def swapOneUptoRow : OpenClaim := { program := "ythonodimjglnfaa", sum := "3c63b1cdfee97cbb9fca133b2a4f84091170ca45e1ee04956212f04f704a588b", func := "vivarium/vivariumlaw04.SwapOne", spec := "swapOne", unfollowed := true, recurses := true, apart := false, narrowed := true }
def SwapOneUptoSaid : Prop := swapOneUptoRow.holds Try.pinned (OpenSpec.upto swapOneSpec)

/-- 'vivariumlaw04.SwapTwice', WHERE WHAT IT READS IS OF BULK AT MOST 1048576: true; the input reads as it did. -/
def swapTwiceUptoRow : OpenClaim := { program := "ythonodimjglnfaa", sum := "3c63b1cdfee97cbb9fca133b2a4f84091170ca45e1ee04956212f04f704a588b", func := "vivarium/vivariumlaw04.SwapTwice", spec := "swapTwice", unfollowed := true, recurses := true, apart := false, narrowed := true }
def SwapTwiceUptoSaid : Prop := swapTwiceUptoRow.holds Try.pinned (OpenSpec.upto swapTwiceSpec)

end Rows
end Go.Proofs.Ythonodimjglnfaa

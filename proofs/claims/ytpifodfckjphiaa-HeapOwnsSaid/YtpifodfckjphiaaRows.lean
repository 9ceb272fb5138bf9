/-
  No cell of these rows narrows 'for every input' (looked for: loops, veiled, ifaces, maps, wideKeys, modest, calm, conditions, laid).
  DERIVED. THE GIVEN ROWS OF THIS SEAT. 7 by the template 'for every input the law returns true; each argument reads behind the call as it read before'; 0 by the template 'total and deterministic' (their statements: YtpifodfckjphiaaTotals.lean).
  GIVEN WITH THE SEED: the statements are not yours to turn. If you find one false, say at which input.
  Laid BY PROGRAM, IN A SANDBOX (cutbox-rows.mjs): the forced cells as the released guide's own fill.sh prints them over the translation f07bf851bb65e15b… (all of the seat's roots in one cut). By AI agents, Wed Nov 11 2026. No macro, syntax, notation, axiom, sorry.
-/
import Derived.Test.YtpifodfckjphiaaChecked
import GoSem.Claim
import GoSem.ClaimJoined
import GoSem.ClaimMapViews
import Derived.JoinedTies
import Derived.KernelRfl
namespace Go.Proofs.Ytpifodfckjphiaa
/- THE CELL 'sum', in the pinned program and in every row, IS THE sha256 OF THE DUMP (.gsa) THAT YtpifodfckjphiaaProg.lean LOADS. Nothing in Lean hashes anything: it is a label: what it is worth is what the hold of that sum in a sandbox is worth. -/
noncomputable def Try.pinned : Pinned := { name := "ytpifodfckjphiaa", sum := "f07bf851bb65e15be9c00d6d0cea71f86a524bd1665c3a1687e2f667dd7f4d6e", checked := Try.checked }
namespace Rows
def none {H : Type} : Left H := { results := [], args := [] }

/-- 'vivariumlaw02.HeapTells': WHATEVER THE INPUT: true; the input reads as it did. -/
def heapTellsSpec : ChangeSpec := { name := "heapTells", fn := fun _ => fun
  | [d1, d2] => { results := [.lit (.bool true)], args := [d1, d2] }
  | _ => none }
def heapTellsRow : OpenClaim := { program := "ytpifodfckjphiaa", sum := "f07bf851bb65e15be9c00d6d0cea71f86a524bd1665c3a1687e2f667dd7f4d6e", func := "vivarium/vivariumlaw02.HeapTells", spec := "heapTells", unfollowed := true, recurses := true, apart := false }
def HeapTellsSaid : Prop := heapTellsRow.holds Try.pinned (OpenSpec.ofChange heapTellsSpec)

/-- ITS FALSE NEIGHBOUR: 'it returns false'. Refute it at one input. -/
def heapTellsWrong : ChangeSpec := { name := "heapTells", fn := fun _ => fun
  | [d1, d2] => { results := [.lit (.bool false)], args := [d1, d2] }
  | _ => none }
def HeapTellsWrongFalsely : Prop := heapTellsRow.holds Try.pinned (OpenSpec.ofChange heapTellsWrong)

/-- 'vivariumlaw02.HeapSound': WHATEVER THE INPUT: true; the input reads as it did. -/
def heapSoundSpec : ChangeSpec := { name := "heapSound", fn := fun _ => fun
  | [d] => { results := [.lit (.bool true)], args := [d] }
  | _ => none }
def heapSoundRow : OpenClaim := { program := "ytpifodfckjphiaa", sum := "f07bf851bb65e15be9c00d6d0cea71f86a524bd1665c3a1687e2f667dd7f4d6e", func := "vivarium/vivariumlaw02.HeapSound", spec := "heapSound", unfollowed := true, recurses := true, apart := false }
def HeapSoundSaid : Prop := heapSoundRow.holds Try.pinned (OpenSpec.ofChange heapSoundSpec)

/-- ITS FALSE NEIGHBOUR: 'it returns false'. Refute it at one input. -/
def heapSoundWrong : ChangeSpec := { name := "heapSound", fn := fun _ => fun
  | [d] => { results := [.lit (.bool false)], args := [d] }
  | _ => none }
def HeapSoundWrongFalsely : Prop := heapSoundRow.holds Try.pinned (OpenSpec.ofChange heapSoundWrong)

/-- 'vivariumlaw02.HeapPlays': WHATEVER THE INPUT: true; the input reads as it did. -/
def heapPlaysSpec : ChangeSpec := { name := "heapPlays", fn := fun _ => fun
  | [d1, d2] => { results := [.lit (.bool true)], args := [d1, d2] }
  | _ => none }
def heapPlaysRow : OpenClaim := { program := "ytpifodfckjphiaa", sum := "f07bf851bb65e15be9c00d6d0cea71f86a524bd1665c3a1687e2f667dd7f4d6e", func := "vivarium/vivariumlaw02.HeapPlays", spec := "heapPlays", unfollowed := true, recurses := true, apart := false }
def HeapPlaysSaid : Prop := heapPlaysRow.holds Try.pinned (OpenSpec.ofChange heapPlaysSpec)

/-- ITS FALSE NEIGHBOUR: 'it returns false'. Refute it at one input. -/
def heapPlaysWrong : ChangeSpec := { name := "heapPlays", fn := fun _ => fun
  | [d1, d2] => { results := [.lit (.bool false)], args := [d1, d2] }
  | _ => none }
def HeapPlaysWrongFalsely : Prop := heapPlaysRow.holds Try.pinned (OpenSpec.ofChange heapPlaysWrong)

/-- 'vivariumlaw02.HeapFields': WHATEVER THE INPUT: true; the input reads as it did. -/
def heapFieldsSpec : ChangeSpec := { name := "heapFields", fn := fun _ => fun
  | [d1, d2, d3, d4] => { results := [.lit (.bool true)], args := [d1, d2, d3, d4] }
  | _ => none }
def heapFieldsRow : OpenClaim := { program := "ytpifodfckjphiaa", sum := "f07bf851bb65e15be9c00d6d0cea71f86a524bd1665c3a1687e2f667dd7f4d6e", func := "vivarium/vivariumlaw02.HeapFields", spec := "heapFields", unfollowed := true, recurses := true, apart := false }
def HeapFieldsSaid : Prop := heapFieldsRow.holds Try.pinned (OpenSpec.ofChange heapFieldsSpec)

/-- ITS FALSE NEIGHBOUR: 'it returns false'. Refute it at one input. -/
def heapFieldsWrong : ChangeSpec := { name := "heapFields", fn := fun _ => fun
  | [d1, d2, d3, d4] => { results := [.lit (.bool false)], args := [d1, d2, d3, d4] }
  | _ => none }
def HeapFieldsWrongFalsely : Prop := heapFieldsRow.holds Try.pinned (OpenSpec.ofChange heapFieldsWrong)

/-- 'vivariumlaw02.HeapTurns': WHATEVER THE INPUT: true; the input reads as it did. -/
def heapTurnsSpec : ChangeSpec := { name := "heapTurns", fn := fun _ => fun
  | [d1, d2, d3] => { results := [.lit (.bool true)], args := [d1, d2, d3] }
  | _ => none }
def heapTurnsRow : OpenClaim := { program := "ytpifodfckjphiaa", sum := "f07bf851bb65e15be9c00d6d0cea71f86a524bd1665c3a1687e2f667dd7f4d6e", func := "vivarium/vivariumlaw02.HeapTurns", spec := "heapTurns", unfollowed := true, recurses := true, apart := false }
def HeapTurnsSaid : Prop := heapTurnsRow.holds Try.pinned (OpenSpec.ofChange heapTurnsSpec)

/-- ITS FALSE NEIGHBOUR: 'it returns false'. Refute it at one input. -/
def heapTurnsWrong : ChangeSpec := { name := "heapTurns", fn := fun _ => fun
  | [d1, d2, d3] => { results := [.lit (.bool false)], args := [d1, d2, d3] }
  | _ => none }
def HeapTurnsWrongFalsely : Prop := heapTurnsRow.holds Try.pinned (OpenSpec.ofChange heapTurnsWrong)

/-- 'vivariumlaw02.HeapOwns': WHATEVER THE INPUT: true; the input reads as it did. -/
def heapOwnsSpec : ChangeSpec := { name := "heapOwns", fn := fun _ => fun
  | [d] => { results := [.lit (.bool true)], args := [d] }
  | _ => none }
def heapOwnsRow : OpenClaim := { program := "ytpifodfckjphiaa", sum := "f07bf851bb65e15be9c00d6d0cea71f86a524bd1665c3a1687e2f667dd7f4d6e", func := "vivarium/vivariumlaw02.HeapOwns", spec := "heapOwns", unfollowed := true, recurses := true, apart := false }
def HeapOwnsSaid : Prop := heapOwnsRow.holds Try.pinned (OpenSpec.ofChange heapOwnsSpec)

/-- ITS FALSE NEIGHBOUR: 'it returns false'. Refute it at one input. -/
def heapOwnsWrong : ChangeSpec := { name := "heapOwns", fn := fun _ => fun
  | [d] => { results := [.lit (.bool false)], args := [d] }
  | _ => none }
def HeapOwnsWrongFalsely : Prop := heapOwnsRow.holds Try.pinned (OpenSpec.ofChange heapOwnsWrong)

/-- 'vivariumlaw02.HeapOrder': WHATEVER THE INPUT: true; the input reads as it did. -/
def heapOrderSpec : ChangeSpec := { name := "heapOrder", fn := fun _ => fun
  | [d1, d2] => { results := [.lit (.bool true)], args := [d1, d2] }
  | _ => none }
def heapOrderRow : OpenClaim := { program := "ytpifodfckjphiaa", sum := "f07bf851bb65e15be9c00d6d0cea71f86a524bd1665c3a1687e2f667dd7f4d6e", func := "vivarium/vivariumlaw02.HeapOrder", spec := "heapOrder", unfollowed := true, recurses := true, apart := false }
def HeapOrderSaid : Prop := heapOrderRow.holds Try.pinned (OpenSpec.ofChange heapOrderSpec)

/-- ITS FALSE NEIGHBOUR: 'it returns false'. Refute it at one input. -/
def heapOrderWrong : ChangeSpec := { name := "heapOrder", fn := fun _ => fun
  | [d1, d2] => { results := [.lit (.bool false)], args := [d1, d2] }
  | _ => none }
def HeapOrderWrongFalsely : Prop := heapOrderRow.holds Try.pinned (OpenSpec.ofChange heapOrderWrong)

/- THE SECOND FORM. 'bulk': how many values and letters a reading holds, each counted each time it is reached (what is shared counts as often as it is met; a slice's spare places count too). A statement '..UptoSaid' is the law's where the arguments, and the package variables that the reading takes, are together of bulk at most 1048576: NARROWER than '..Said'. Prove '..Said' where nothing that the law and all that it calls make is longer than what came in: it says more and counts as full. Else prove '..UptoSaid'. A law counts once. -/
mutual
def uptoBulk {H : Type} : DataW H → Nat
  | .lit (.string bytes) => bytes.length + 1
  | .lit _ => 1
  | .nil => 1
  | .ptr d => uptoBulk d + 1
  | .slice elems spare => uptoBulkAll elems + uptoBulkAll spare + 1
  | .agg parts => uptoBulkAll parts + 1
  | .iface _ d => uptoBulk d + 1
  | .map entries => uptoBulkEntries entries + 1
  | .held _ => 1
def uptoBulkAll {H : Type} : List (DataW H) → Nat
  | [] => 0
  | d :: r => uptoBulk d + uptoBulkAll r
def uptoBulkEntries {H : Type} : List (Lit × DataW H) → Nat
  | [] => 0
  | x :: r => uptoBulkEntry x + uptoBulkEntries r
def uptoBulkEntry {H : Type} : Lit × DataW H → Nat
  | (.string bytes, d) => bytes.length + uptoBulk d + 1
  | (_, d) => uptoBulk d + 1
 end
def uptoSmall : (H : Type) → List (DataW H) → Bool := fun _ ds => decide (uptoBulkAll ds ≤ 1048576)
def OpenSpec.upto (s : _root_.Go.ChangeSpec) : _root_.Go.OpenSpec := { _root_.Go.OpenSpec.ofChange s with cond := some uptoSmall }

/-- 'vivariumlaw02.HeapTells', WHERE WHAT IT READS IS OF BULK AT MOST 1048576: true; the input reads as it did. -/
def heapTellsUptoRow : OpenClaim := { program := "ytpifodfckjphiaa", sum := "f07bf851bb65e15be9c00d6d0cea71f86a524bd1665c3a1687e2f667dd7f4d6e", func := "vivarium/vivariumlaw02.HeapTells", spec := "heapTells", unfollowed := true, recurses := true, apart := false, narrowed := true }
def HeapTellsUptoSaid : Prop := heapTellsUptoRow.holds Try.pinned (OpenSpec.upto heapTellsSpec)

/-- 'vivariumlaw02.HeapSound', WHERE WHAT IT READS IS OF BULK AT MOST 1048576: true; the input reads as it did. -/
def heapSoundUptoRow : OpenClaim := { program := "ytpifodfckjphiaa", sum := "f07bf851bb65e15be9c00d6d0cea71f86a524bd1665c3a1687e2f667dd7f4d6e", func := "vivarium/vivariumlaw02.HeapSound", spec := "heapSound", unfollowed := true, recurses := true, apart := false, narrowed := true }
def HeapSoundUptoSaid : Prop := heapSoundUptoRow.holds Try.pinned (OpenSpec.upto heapSoundSpec)

/-- 'vivariumlaw02.HeapPlays', WHERE WHAT IT READS IS OF BULK AT MOST 1048576: true; the input reads as it did. -/
def heapPlaysUptoRow : OpenClaim := { program := "ytpifodfckjphiaa", sum := "f07bf851bb65e15be9c00d6d0cea71f86a524bd1665c3a1687e2f667dd7f4d6e", func := "vivarium/vivariumlaw02.HeapPlays", spec := "heapPlays", unfollowed := true, recurses := true, apart := false, narrowed := true }
def HeapPlaysUptoSaid : Prop := heapPlaysUptoRow.holds Try.pinned (OpenSpec.upto heapPlaysSpec)

/-- 'vivariumlaw02.HeapFields', WHERE WHAT IT READS IS OF BULK AT MOST 1048576: true; the input reads as it did. -/
def heapFieldsUptoRow : OpenClaim := { program := "ytpifodfckjphiaa", sum := "f07bf851bb65e15be9c00d6d0cea71f86a524bd1665c3a1687e2f667dd7f4d6e", func := "vivarium/vivariumlaw02.HeapFields", spec := "heapFields", unfollowed := true, recurses := true, apart := false, narrowed := true }
def HeapFieldsUptoSaid : Prop := heapFieldsUptoRow.holds Try.pinned (OpenSpec.upto heapFieldsSpec)

/-- 'vivariumlaw02.HeapTurns', WHERE WHAT IT READS IS OF BULK AT MOST 1048576: true; the input reads as it did. -/
def heapTurnsUptoRow : OpenClaim := { program := "ytpifodfckjphiaa", sum := "f07bf851bb65e15be9c00d6d0cea71f86a524bd1665c3a1687e2f667dd7f4d6e", func := "vivarium/vivariumlaw02.HeapTurns", spec := "heapTurns", unfollowed := true, recurses := true, apart := false, narrowed := true }
def HeapTurnsUptoSaid : Prop := heapTurnsUptoRow.holds Try.pinned (OpenSpec.upto heapTurnsSpec)

/-- 'vivariumlaw02.HeapOwns', WHERE WHAT IT READS IS OF BULK AT MOST 1048576: true; the input reads as it did. -/
def heapOwnsUptoRow : OpenClaim := { program := "ytpifodfckjphiaa", sum := "f07bf851bb65e15be9c00d6d0cea71f86a524bd1665c3a1687e2f667dd7f4d6e", func := "vivarium/vivariumlaw02.HeapOwns", spec := "heapOwns", unfollowed := true, recurses := true, apart := false, narrowed := true }
def HeapOwnsUptoSaid : Prop := heapOwnsUptoRow.holds Try.pinned (OpenSpec.upto heapOwnsSpec)

/-- 'vivariumlaw02.HeapOrder', WHERE WHAT IT READS IS OF BULK AT MOST 1048576: true; the input reads as it did. -/
def heapOrderUptoRow : OpenClaim := { program := "ytpifodfckjphiaa", sum := "f07bf851bb65e15be9c00d6d0cea71f86a524bd1665c3a1687e2f667dd7f4d6e", func := "vivarium/vivariumlaw02.HeapOrder", spec := "heapOrder", unfollowed := true, recurses := true, apart := false, narrowed := true }
def HeapOrderUptoSaid : Prop := heapOrderUptoRow.holds Try.pinned (OpenSpec.upto heapOrderSpec)

end Rows
end Go.Proofs.Ytpifodfckjphiaa

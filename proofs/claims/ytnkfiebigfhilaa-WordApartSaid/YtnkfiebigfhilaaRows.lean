/-
  No cell of these rows narrows 'for every input' (looked for: loops, veiled, ifaces, maps, wideKeys, modest, calm, conditions, laid).
  DERIVED. THE GIVEN ROWS OF THIS SEAT. 7 by the template 'for every input the law returns true; each argument reads behind the call as it read before'; 0 by the template 'total and deterministic' (their statements: YtnkfiebigfhilaaTotals.lean).
  GIVEN WITH THE SEED: the statements are not yours to turn. If you find one false, say at which input.
  Laid BY PROGRAM, IN A SANDBOX (cutbox-rows.mjs): the forced cells as the released guide's own fill.sh prints them over the translation 25d08e6cb9121a01… (all of the seat's roots in one cut). By AI agents, Wed Nov 11 2026. No macro, syntax, notation, axiom, sorry.
-/
import Derived.Test.YtnkfiebigfhilaaChecked
import GoSem.Claim
import GoSem.ClaimJoined
import GoSem.ClaimMapViews
import Derived.JoinedTies
import Derived.KernelRfl
namespace Go.Proofs.Ytnkfiebigfhilaa
/- THE CELL 'sum', in the pinned program and in every row, IS THE sha256 OF THE DUMP (.gsa) THAT YtnkfiebigfhilaaProg.lean LOADS. Nothing in Lean hashes anything: it is a label: what it is worth is what the hold of that sum in a sandbox is worth. -/
noncomputable def Try.pinned : Pinned := { name := "ytnkfiebigfhilaa", sum := "25d08e6cb9121a01ca54b2cd930f0c0cc7be76440bcc2ab5a8defbc64ad1bf88", checked := Try.checked }
namespace Rows
def none {H : Type} : Left H := { results := [], args := [] }

/-- 'vivariumlaw01.WordParts': WHATEVER THE INPUT: true; the input reads as it did. -/
def wordPartsSpec : ChangeSpec := { name := "wordParts", fn := fun _ => fun
  | [d1, d2] => { results := [.lit (.bool true)], args := [d1, d2] }
  | _ => none }
def wordPartsRow : OpenClaim := { program := "ytnkfiebigfhilaa", sum := "25d08e6cb9121a01ca54b2cd930f0c0cc7be76440bcc2ab5a8defbc64ad1bf88", func := "vivarium/vivariumlaw01.WordParts", spec := "wordParts", apart := false }
def WordPartsSaid : Prop := wordPartsRow.holds Try.pinned (OpenSpec.ofChange wordPartsSpec)

/-- ITS FALSE NEIGHBOUR: 'it returns false'. Refute it at one input. -/
def wordPartsWrong : ChangeSpec := { name := "wordParts", fn := fun _ => fun
  | [d1, d2] => { results := [.lit (.bool false)], args := [d1, d2] }
  | _ => none }
def WordPartsWrongFalsely : Prop := wordPartsRow.holds Try.pinned (OpenSpec.ofChange wordPartsWrong)

/-- 'vivariumlaw01.WordFloor': WHATEVER THE INPUT: true; the input reads as it did. -/
def wordFloorSpec : ChangeSpec := { name := "wordFloor", fn := fun _ => fun
  | [d1, d2] => { results := [.lit (.bool true)], args := [d1, d2] }
  | _ => none }
def wordFloorRow : OpenClaim := { program := "ytnkfiebigfhilaa", sum := "25d08e6cb9121a01ca54b2cd930f0c0cc7be76440bcc2ab5a8defbc64ad1bf88", func := "vivarium/vivariumlaw01.WordFloor", spec := "wordFloor", apart := false }
def WordFloorSaid : Prop := wordFloorRow.holds Try.pinned (OpenSpec.ofChange wordFloorSpec)

/-- ITS FALSE NEIGHBOUR: 'it returns false'. Refute it at one input. -/
def wordFloorWrong : ChangeSpec := { name := "wordFloor", fn := fun _ => fun
  | [d1, d2] => { results := [.lit (.bool false)], args := [d1, d2] }
  | _ => none }
def WordFloorWrongFalsely : Prop := wordFloorRow.holds Try.pinned (OpenSpec.ofChange wordFloorWrong)

/-- 'vivariumlaw01.WordRings': WHATEVER THE INPUT: true; the input reads as it did. -/
def wordRingsSpec : ChangeSpec := { name := "wordRings", fn := fun _ => fun
  | [d1, d2, d3] => { results := [.lit (.bool true)], args := [d1, d2, d3] }
  | _ => none }
def wordRingsRow : OpenClaim := { program := "ytnkfiebigfhilaa", sum := "25d08e6cb9121a01ca54b2cd930f0c0cc7be76440bcc2ab5a8defbc64ad1bf88", func := "vivarium/vivariumlaw01.WordRings", spec := "wordRings", apart := false }
def WordRingsSaid : Prop := wordRingsRow.holds Try.pinned (OpenSpec.ofChange wordRingsSpec)

/-- ITS FALSE NEIGHBOUR: 'it returns false'. Refute it at one input. -/
def wordRingsWrong : ChangeSpec := { name := "wordRings", fn := fun _ => fun
  | [d1, d2, d3] => { results := [.lit (.bool false)], args := [d1, d2, d3] }
  | _ => none }
def WordRingsWrongFalsely : Prop := wordRingsRow.holds Try.pinned (OpenSpec.ofChange wordRingsWrong)

/-- 'vivariumlaw01.WordSums': WHATEVER THE INPUT: true; the input reads as it did. -/
def wordSumsSpec : ChangeSpec := { name := "wordSums", fn := fun _ => fun
  | [d1, d2] => { results := [.lit (.bool true)], args := [d1, d2] }
  | _ => none }
def wordSumsRow : OpenClaim := { program := "ytnkfiebigfhilaa", sum := "25d08e6cb9121a01ca54b2cd930f0c0cc7be76440bcc2ab5a8defbc64ad1bf88", func := "vivarium/vivariumlaw01.WordSums", spec := "wordSums", apart := false }
def WordSumsSaid : Prop := wordSumsRow.holds Try.pinned (OpenSpec.ofChange wordSumsSpec)

/-- ITS FALSE NEIGHBOUR: 'it returns false'. Refute it at one input. -/
def wordSumsWrong : ChangeSpec := { name := "wordSums", fn := fun _ => fun
  | [d1, d2] => { results := [.lit (.bool false)], args := [d1, d2] }
  | _ => none }
def WordSumsWrongFalsely : Prop := wordSumsRow.holds Try.pinned (OpenSpec.ofChange wordSumsWrong)

/-- 'vivariumlaw01.WordAgain': WHATEVER THE INPUT: true; the input reads as it did. -/
def wordAgainSpec : ChangeSpec := { name := "wordAgain", fn := fun _ => fun
  | [d1, d2] => { results := [.lit (.bool true)], args := [d1, d2] }
  | _ => none }
def wordAgainRow : OpenClaim := { program := "ytnkfiebigfhilaa", sum := "25d08e6cb9121a01ca54b2cd930f0c0cc7be76440bcc2ab5a8defbc64ad1bf88", func := "vivarium/vivariumlaw01.WordAgain", spec := "wordAgain", apart := false }
def WordAgainSaid : Prop := wordAgainRow.holds Try.pinned (OpenSpec.ofChange wordAgainSpec)

/-- ITS FALSE NEIGHBOUR: 'it returns false'. Refute it at one input. -/
def wordAgainWrong : ChangeSpec := { name := "wordAgain", fn := fun _ => fun
  | [d1, d2] => { results := [.lit (.bool false)], args := [d1, d2] }
  | _ => none }
def WordAgainWrongFalsely : Prop := wordAgainRow.holds Try.pinned (OpenSpec.ofChange wordAgainWrong)

/-- 'vivariumlaw01.WordTags': WHATEVER THE INPUT: true; the input reads as it did. -/
def wordTagsSpec : ChangeSpec := { name := "wordTags", fn := fun _ => fun
  | [d1, d2] => { results := [.lit (.bool true)], args := [d1, d2] }
  | _ => none }
def wordTagsRow : OpenClaim := { program := "ytnkfiebigfhilaa", sum := "25d08e6cb9121a01ca54b2cd930f0c0cc7be76440bcc2ab5a8defbc64ad1bf88", func := "vivarium/vivariumlaw01.WordTags", spec := "wordTags", apart := false }
def WordTagsSaid : Prop := wordTagsRow.holds Try.pinned (OpenSpec.ofChange wordTagsSpec)

/-- ITS FALSE NEIGHBOUR: 'it returns false'. Refute it at one input. -/
def wordTagsWrong : ChangeSpec := { name := "wordTags", fn := fun _ => fun
  | [d1, d2] => { results := [.lit (.bool false)], args := [d1, d2] }
  | _ => none }
def WordTagsWrongFalsely : Prop := wordTagsRow.holds Try.pinned (OpenSpec.ofChange wordTagsWrong)

/-- 'vivariumlaw01.WordApart': WHATEVER THE INPUT: true; the input reads as it did. -/
def wordApartSpec : ChangeSpec := { name := "wordApart", fn := fun _ => fun
  | [d1, d2, d3] => { results := [.lit (.bool true)], args := [d1, d2, d3] }
  | _ => none }
def wordApartRow : OpenClaim := { program := "ytnkfiebigfhilaa", sum := "25d08e6cb9121a01ca54b2cd930f0c0cc7be76440bcc2ab5a8defbc64ad1bf88", func := "vivarium/vivariumlaw01.WordApart", spec := "wordApart", apart := false }
def WordApartSaid : Prop := wordApartRow.holds Try.pinned (OpenSpec.ofChange wordApartSpec)

/-- ITS FALSE NEIGHBOUR: 'it returns false'. Refute it at one input. -/
def wordApartWrong : ChangeSpec := { name := "wordApart", fn := fun _ => fun
  | [d1, d2, d3] => { results := [.lit (.bool false)], args := [d1, d2, d3] }
  | _ => none }
def WordApartWrongFalsely : Prop := wordApartRow.holds Try.pinned (OpenSpec.ofChange wordApartWrong)

/- THE SECOND FORM. 'bulk': how many values and letters a reading holds, each counted each time it is reached (what is shared counts as often as it is met; a slice's spare places count too). A statement '..UptoSaid' is the law's where the arguments, and the package variables that the reading takes, are together of bulk at most 1048576: NARROWER than '..Said'. Prove '..Said' where nothing that the law and all that it calls make is longer than what came in: it says more and counts as full. Else prove '..UptoSaid'. A law counts once. -/
mutual
def uptoBulk {H : Type} : DataW H → Nat
  | .lit (.string bytes) => bytes.length + 1
  | .lit _ => 1
  | .nil => 1
  | .ptr d => uptoBulk d + 1
  | .slice elems spare => uptoBulkAll elems + uptoBulkAll spare + 1
  | .agg parts => uptoBulkAll parts + 1
  | .iface _ d => uptoBulk d + 1
  | .map entries => uptoBulkEntries entries + 1
  | .held _ => 1
def uptoBulkAll {H : Type} : List (DataW H) → Nat
  | [] => 0
  | d :: r => uptoBulk d + uptoBulkAll r
def uptoBulkEntries {H : Type} : List (Lit × DataW H) → Nat
  | [] => 0
  | x :: r => uptoBulkEntry x + uptoBulkEntries r
def uptoBulkEntry {H : Type} : Lit × DataW H → Nat
  | (.string bytes, d) => bytes.length + uptoBulk d + 1
  | (_, d) => uptoBulk d + 1
 end
def uptoSmall : (H : Type) → List (DataW H) → Bool := fun _ ds => decide (uptoBulkAll ds ≤ 1048576)
def OpenSpec.upto (s : _root_.Go.ChangeSpec) : _root_.Go.OpenSpec := { _root_.Go.OpenSpec.ofChange s with cond := some uptoSmall }

/-- 'vivariumlaw01.WordParts', WHERE WHAT IT READS IS OF BULK AT MOST 1048576: true; the input reads as it did. -/
def wordPartsUptoRow : OpenClaim := { program := "ytnkfiebigfhilaa", sum := "25d08e6cb9121a01ca54b2cd930f0c0cc7be76440bcc2ab5a8defbc64ad1bf88", func := "vivarium/vivariumlaw01.WordParts", spec := "wordParts", apart := false, narrowed := true }
def WordPartsUptoSaid : Prop := wordPartsUptoRow.holds Try.pinned (OpenSpec.upto wordPartsSpec)

/-- 'vivariumlaw01.WordFloor', WHERE WHAT IT READS IS OF BULK AT MOST 1048576: true; the input reads as it did. -/
def wordFloorUptoRow : OpenClaim := { program := "ytnkfiebigfhilaa", sum := "25d08e6cb9121a01ca54b2cd930f0c0cc7be76440bcc2ab5a8defbc64ad1bf88", func := "vivarium/vivariumlaw01.WordFloor", spec := "wordFloor", apart := false, narrowed := true }
def WordFloorUptoSaid : Prop := wordFloorUptoRow.holds Try.pinned (OpenSpec.upto wordFloorSpec)

/-- 'vivariumlaw01.WordRings', WHERE WHAT IT READS IS OF BULK AT MOST 1048576: true; the input reads as it did. -/
def wordRingsUptoRow : OpenClaim := { program := "ytnkfiebigfhilaa", sum := "25d08e6cb9121a01ca54b2cd930f0c0cc7be76440bcc2ab5a8defbc64ad1bf88", func := "vivarium/vivariumlaw01.WordRings", spec := "wordRings", apart := false, narrowed := true }
def WordRingsUptoSaid : Prop := wordRingsUptoRow.holds Try.pinned (OpenSpec.upto wordRingsSpec)

/-- 'vivariumlaw01.WordSums', WHERE WHAT IT READS IS OF BULK AT MOST 1048576: true; the input reads as it did. -/
def wordSumsUptoRow : OpenClaim := { program := "ytnkfiebigfhilaa", sum := "25d08e6cb9121a01ca54b2cd930f0c0cc7be76440bcc2ab5a8defbc64ad1bf88", func := "vivarium/vivariumlaw01.WordSums", spec := "wordSums", apart := false, narrowed := true }
def WordSumsUptoSaid : Prop := wordSumsUptoRow.holds Try.pinned (OpenSpec.upto wordSumsSpec)

/-- 'vivariumlaw01.WordAgain', WHERE WHAT IT READS IS OF BULK AT MOST 1048576: true; the input reads as it did. -/
def wordAgainUptoRow : OpenClaim := { program := "ytnkfiebigfhilaa", sum := "25d08e6cb9121a01ca54b2cd930f0c0cc7be76440bcc2ab5a8defbc64ad1bf88", func := "vivarium/vivariumlaw01.WordAgain", spec := "wordAgain", apart := false, narrowed := true }
def WordAgainUptoSaid : Prop := wordAgainUptoRow.holds Try.pinned (OpenSpec.upto wordAgainSpec)

/-- 'vivariumlaw01.WordTags', WHERE WHAT IT READS IS OF BULK AT MOST 1048576: true; the input reads as it did. -/
def wordTagsUptoRow : OpenClaim := { program := "ytnkfiebigfhilaa", sum := "25d08e6cb9121a01ca54b2cd930f0c0cc7be76440bcc2ab5a8defbc64ad1bf88", func := "vivarium/vivariumlaw01.WordTags", spec := "wordTags", apart := false, narrowed := true }
def WordTagsUptoSaid : Prop := wordTagsUptoRow.holds Try.pinned (OpenSpec.upto wordTagsSpec)

/-- 'vivariumlaw01.WordApart', WHERE WHAT IT READS IS OF BULK AT MOST 1048576: true; the input reads as it did. -/
def wordApartUptoRow : OpenClaim := { program := "ytnkfiebigfhilaa", sum := "25d08e6cb9121a01ca54b2cd930f0c0cc7be76440bcc2ab5a8defbc64ad1bf88", func := "vivarium/vivariumlaw01.WordApart", spec := "wordApart", apart := false, narrowed := true }
def WordApartUptoSaid : Prop := wordApartUptoRow.holds Try.pinned (OpenSpec.upto wordApartSpec)

end Rows
end Go.Proofs.Ytnkfiebigfhilaa

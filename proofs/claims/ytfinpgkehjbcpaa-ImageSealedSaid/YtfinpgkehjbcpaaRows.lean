/-
  No cell of these rows narrows 'for every input' (looked for: loops, veiled, ifaces, maps, wideKeys, modest, calm, conditions, laid).
  DERIVED. THE GIVEN ROWS OF THIS SEAT. 7 by the template 'for every input the law returns true; each argument reads behind the call as it read before'; 0 by the template 'total and deterministic' (their statements: YtfinpgkehjbcpaaTotals.lean).
  GIVEN WITH THE SEED: the statements are not yours to turn. If you find one false, say at which input.
  Laid BY PROGRAM, IN A SANDBOX (cutbox-rows.mjs): the forced cells as the released guide's own fill.sh prints them over the translation 1fd0e21e2ffd466c… (all of the seat's roots in one cut). By AI agents, Wed Nov 11 2026. No macro, syntax, notation, axiom, sorry.
-/
import Derived.Test.YtfinpgkehjbcpaaChecked
import GoSem.Claim
import GoSem.ClaimJoined
import GoSem.ClaimMapViews
import Derived.JoinedTies
import Derived.KernelRfl
namespace Go.Proofs.Ytfinpgkehjbcpaa
/- THE CELL 'sum', in the pinned program and in every row, IS THE sha256 OF THE DUMP (.gsa) THAT YtfinpgkehjbcpaaProg.lean LOADS. Nothing in Lean hashes anything: it is a label: what it is worth is what the hold of that sum in a sandbox is worth. -/
noncomputable def Try.pinned : Pinned := { name := "ytfinpgkehjbcpaa", sum := "1fd0e21e2ffd466c31936a9a160cfe6a3e87750948ceec713595e634194a112b", checked := Try.checked }
namespace Rows
def none {H : Type} : Left H := { results := [], args := [] }

/-- 'vivariumlaw05.ImageWrites': WHATEVER THE INPUT: true; the input reads as it did. -/
def imageWritesSpec : ChangeSpec := { name := "imageWrites", fn := fun _ => fun
  | [d1, d2] => { results := [.lit (.bool true)], args := [d1, d2] }
  | _ => none }
def imageWritesRow : OpenClaim := { program := "ytfinpgkehjbcpaa", sum := "1fd0e21e2ffd466c31936a9a160cfe6a3e87750948ceec713595e634194a112b", func := "vivarium/vivariumlaw05.ImageWrites", spec := "imageWrites", unfollowed := true, recurses := true, apart := false }
def ImageWritesSaid : Prop := imageWritesRow.holds Try.pinned (OpenSpec.ofChange imageWritesSpec)

/-- ITS FALSE NEIGHBOUR: 'it returns false'. Refute it at one input. -/
def imageWritesWrong : ChangeSpec := { name := "imageWrites", fn := fun _ => fun
  | [d1, d2] => { results := [.lit (.bool false)], args := [d1, d2] }
  | _ => none }
def ImageWritesWrongFalsely : Prop := imageWritesRow.holds Try.pinned (OpenSpec.ofChange imageWritesWrong)

/-- 'vivariumlaw05.ImageReads': WHATEVER THE INPUT: true; the input reads as it did. -/
def imageReadsSpec : ChangeSpec := { name := "imageReads", fn := fun _ => fun
  | [d1, d2] => { results := [.lit (.bool true)], args := [d1, d2] }
  | _ => none }
def imageReadsRow : OpenClaim := { program := "ytfinpgkehjbcpaa", sum := "1fd0e21e2ffd466c31936a9a160cfe6a3e87750948ceec713595e634194a112b", func := "vivarium/vivariumlaw05.ImageReads", spec := "imageReads", unfollowed := true, recurses := true, apart := false }
def ImageReadsSaid : Prop := imageReadsRow.holds Try.pinned (OpenSpec.ofChange imageReadsSpec)

/-- ITS FALSE NEIGHBOUR: 'it returns false'. Refute it at one input. -/
def imageReadsWrong : ChangeSpec := { name := "imageReads", fn := fun _ => fun
  | [d1, d2] => { results := [.lit (.bool false)], args := [d1, d2] }
  | _ => none }
def ImageReadsWrongFalsely : Prop := imageReadsRow.holds Try.pinned (OpenSpec.ofChange imageReadsWrong)

/-- 'vivariumlaw05.ImageSealed': WHATEVER THE INPUT: true; the input reads as it did. -/
def imageSealedSpec : ChangeSpec := { name := "imageSealed", fn := fun _ => fun
  | [d1, d2] => { results := [.lit (.bool true)], args := [d1, d2] }
  | _ => none }
def imageSealedRow : OpenClaim := { program := "ytfinpgkehjbcpaa", sum := "1fd0e21e2ffd466c31936a9a160cfe6a3e87750948ceec713595e634194a112b", func := "vivarium/vivariumlaw05.ImageSealed", spec := "imageSealed", unfollowed := true, recurses := true, apart := false }
def ImageSealedSaid : Prop := imageSealedRow.holds Try.pinned (OpenSpec.ofChange imageSealedSpec)

/-- ITS FALSE NEIGHBOUR: 'it returns false'. Refute it at one input. -/
def imageSealedWrong : ChangeSpec := { name := "imageSealed", fn := fun _ => fun
  | [d1, d2] => { results := [.lit (.bool false)], args := [d1, d2] }
  | _ => none }
def ImageSealedWrongFalsely : Prop := imageSealedRow.holds Try.pinned (OpenSpec.ofChange imageSealedWrong)

/-- 'vivariumlaw05.ImageRound': WHATEVER THE INPUT: true; the input reads as it did. -/
def imageRoundSpec : ChangeSpec := { name := "imageRound", fn := fun _ => fun
  | [d1, d2, d3] => { results := [.lit (.bool true)], args := [d1, d2, d3] }
  | _ => none }
def imageRoundRow : OpenClaim := { program := "ytfinpgkehjbcpaa", sum := "1fd0e21e2ffd466c31936a9a160cfe6a3e87750948ceec713595e634194a112b", func := "vivarium/vivariumlaw05.ImageRound", spec := "imageRound", unfollowed := true, recurses := true, apart := false }
def ImageRoundSaid : Prop := imageRoundRow.holds Try.pinned (OpenSpec.ofChange imageRoundSpec)

/-- ITS FALSE NEIGHBOUR: 'it returns false'. Refute it at one input. -/
def imageRoundWrong : ChangeSpec := { name := "imageRound", fn := fun _ => fun
  | [d1, d2, d3] => { results := [.lit (.bool false)], args := [d1, d2, d3] }
  | _ => none }
def ImageRoundWrongFalsely : Prop := imageRoundRow.holds Try.pinned (OpenSpec.ofChange imageRoundWrong)

/-- 'vivariumlaw05.ImageOne': WHATEVER THE INPUT: true; the input reads as it did. -/
def imageOneSpec : ChangeSpec := { name := "imageOne", fn := fun _ => fun
  | [d] => { results := [.lit (.bool true)], args := [d] }
  | _ => none }
def imageOneRow : OpenClaim := { program := "ytfinpgkehjbcpaa", sum := "1fd0e21e2ffd466c31936a9a160cfe6a3e87750948ceec713595e634194a112b", func := "vivarium/vivariumlaw05.ImageOne", spec := "imageOne", unfollowed := true, recurses := true, apart := false }
def ImageOneSaid : Prop := imageOneRow.holds Try.pinned (OpenSpec.ofChange imageOneSpec)

/-- ITS FALSE NEIGHBOUR: 'it returns false'. Refute it at one input. -/
def imageOneWrong : ChangeSpec := { name := "imageOne", fn := fun _ => fun
  | [d] => { results := [.lit (.bool false)], args := [d] }
  | _ => none }
def ImageOneWrongFalsely : Prop := imageOneRow.holds Try.pinned (OpenSpec.ofChange imageOneWrong)

/-- 'vivariumlaw05.ImageOwns': WHATEVER THE INPUT: true; the input reads as it did. -/
def imageOwnsSpec : ChangeSpec := { name := "imageOwns", fn := fun _ => fun
  | [d1, d2] => { results := [.lit (.bool true)], args := [d1, d2] }
  | _ => none }
def imageOwnsRow : OpenClaim := { program := "ytfinpgkehjbcpaa", sum := "1fd0e21e2ffd466c31936a9a160cfe6a3e87750948ceec713595e634194a112b", func := "vivarium/vivariumlaw05.ImageOwns", spec := "imageOwns", unfollowed := true, recurses := true, apart := false }
def ImageOwnsSaid : Prop := imageOwnsRow.holds Try.pinned (OpenSpec.ofChange imageOwnsSpec)

/-- ITS FALSE NEIGHBOUR: 'it returns false'. Refute it at one input. -/
def imageOwnsWrong : ChangeSpec := { name := "imageOwns", fn := fun _ => fun
  | [d1, d2] => { results := [.lit (.bool false)], args := [d1, d2] }
  | _ => none }
def ImageOwnsWrongFalsely : Prop := imageOwnsRow.holds Try.pinned (OpenSpec.ofChange imageOwnsWrong)

/-- 'vivariumlaw05.ImageCuts': WHATEVER THE INPUT: true; the input reads as it did. -/
def imageCutsSpec : ChangeSpec := { name := "imageCuts", fn := fun _ => fun
  | [d1, d2, d3, d4] => { results := [.lit (.bool true)], args := [d1, d2, d3, d4] }
  | _ => none }
def imageCutsRow : OpenClaim := { program := "ytfinpgkehjbcpaa", sum := "1fd0e21e2ffd466c31936a9a160cfe6a3e87750948ceec713595e634194a112b", func := "vivarium/vivariumlaw05.ImageCuts", spec := "imageCuts", unfollowed := true, recurses := true, apart := false }
def ImageCutsSaid : Prop := imageCutsRow.holds Try.pinned (OpenSpec.ofChange imageCutsSpec)

/-- ITS FALSE NEIGHBOUR: 'it returns false'. Refute it at one input. -/
def imageCutsWrong : ChangeSpec := { name := "imageCuts", fn := fun _ => fun
  | [d1, d2, d3, d4] => { results := [.lit (.bool false)], args := [d1, d2, d3, d4] }
  | _ => none }
def ImageCutsWrongFalsely : Prop := imageCutsRow.holds Try.pinned (OpenSpec.ofChange imageCutsWrong)

/- THE SECOND FORM. 'bulk': how many values and letters a reading holds, each counted each time it is reached (what is shared counts as often as it is met; a slice's spare places count too). A statement '..UptoSaid' is the law's where the arguments, and the package variables that the reading takes, are together of bulk at most 1048576: NARROWER than '..Said'. Prove '..Said' where nothing that the law and all that it calls make is longer than what came in: it says more and counts as full. Else prove '..UptoSaid'. A law counts once. -/
mutual
def uptoBulk {H : Type} : DataW H → Nat
  | .lit (.string bytes) => bytes.length + 1
  | .lit _ => 1
  | .nil => 1
  | .ptr d => uptoBulk d + 1
  | .slice elems spare => uptoBulkAll elems + uptoBulkAll spare + 1
  | .agg parts => uptoBulkAll parts + 1
  | .iface _ d => uptoBulk d + 1
  | .map entries => uptoBulkEntries entries + 1
  | .held _ => 1
def uptoBulkAll {H : Type} : List (DataW H) → Nat
  | [] => 0
  | d :: r => uptoBulk d + uptoBulkAll r
def uptoBulkEntries {H : Type} : List (Lit × DataW H) → Nat
  | [] => 0
  | x :: r => uptoBulkEntry x + uptoBulkEntries r
def uptoBulkEntry {H : Type} : Lit × DataW H → Nat
  | (.string bytes, d) => bytes.length + uptoBulk d + 1
  | (_, d) => uptoBulk d + 1
 end
def uptoSmall : (H : Type) → List (DataW H) → Bool := fun _ ds => decide (uptoBulkAll ds ≤ 1048576)
def OpenSpec.upto (s : _root_.Go.ChangeSpec) : _root_.Go.OpenSpec := { _root_.Go.OpenSpec.ofChange s with cond := some uptoSmall }

/-- 'vivariumlaw05.ImageWrites', WHERE WHAT IT READS IS OF BULK AT MOST 1048576: true; the input reads as it did. -/
def imageWritesUptoRow : OpenClaim := { program := "ytfinpgkehjbcpaa", sum := "1fd0e21e2ffd466c31936a9a160cfe6a3e87750948ceec713595e634194a112b", func := "vivarium/vivariumlaw05.ImageWrites", spec := "imageWrites", unfollowed := true, recurses := true, apart := false, narrowed := true }
def ImageWritesUptoSaid : Prop := imageWritesUptoRow.holds Try.pinned (OpenSpec.upto imageWritesSpec)

/-- 'vivariumlaw05.ImageReads', WHERE WHAT IT READS IS OF BULK AT MOST 1048576: true; the input reads as it did. -/
def imageReadsUptoRow : OpenClaim := { program := "ytfinpgkehjbcpaa", sum := "1fd0e21e2ffd466c31936a9a160cfe6a3e87750948ceec713595e634194a112b", func := "vivarium/vivariumlaw05.ImageReads", spec := "imageReads", unfollowed := true, recurses := true, apart := false, narrowed := true }
def ImageReadsUptoSaid : Prop := imageReadsUptoRow.holds Try.pinned (OpenSpec.upto imageReadsSpec)

/-- 'vivariumlaw05.ImageSealed', WHERE WHAT IT READS IS OF BULK AT MOST 1048576: true; the input reads as it did. -/
def imageSealedUptoRow : OpenClaim := { program := "ytfinpgkehjbcpaa", sum := "1fd0e21e2ffd466c31936a9a160cfe6a3e87750948ceec713595e634194a112b", func := "vivarium/vivariumlaw05.ImageSealed", spec := "imageSealed", unfollowed := true, recurses := true, apart := false, narrowed := true }
def ImageSealedUptoSaid : Prop := imageSealedUptoRow.holds Try.pinned (OpenSpec.upto imageSealedSpec)

/-- 'vivariumlaw05.ImageRound', WHERE WHAT IT READS IS OF BULK AT MOST 1048576: true; the input reads as it did. -/
def imageRoundUptoRow : OpenClaim := { program := "ytfinpgkehjbcpaa", sum := "1fd0e21e2ffd466c31936a9a160cfe6a3e87750948ceec713595e634194a112b", func := "vivarium/vivariumlaw05.ImageRound", spec := "imageRound", unfollowed := true, recurses := true, apart := false, narrowed := true }
def ImageRoundUptoSaid : Prop := imageRoundUptoRow.holds Try.pinned (OpenSpec.upto imageRoundSpec)

/-- 'vivariumlaw05.ImageOne', WHERE WHAT IT READS IS OF BULK AT MOST 1048576: true; the input reads as it did. -/
def imageOneUptoRow : OpenClaim := { program := "ytfinpgkehjbcpaa", sum := "1fd0e21e2ffd466c31936a9a160cfe6a3e87750948ceec713595e634194a112b", func := "vivarium/vivariumlaw05.ImageOne", spec := "imageOne", unfollowed := true, recurses := true, apart := false, narrowed := true }
def ImageOneUptoSaid : Prop := imageOneUptoRow.holds Try.pinned (OpenSpec.upto imageOneSpec)

/-- 'vivariumlaw05.ImageOwns', WHERE WHAT IT READS IS OF BULK AT MOST 1048576: true; the input reads as it did. -/
def imageOwnsUptoRow : OpenClaim := { program := "ytfinpgkehjbcpaa", sum := "1fd0e21e2ffd466c31936a9a160cfe6a3e87750948ceec713595e634194a112b", func := "vivarium/vivariumlaw05.ImageOwns", spec := "imageOwns", unfollowed := true, recurses := true, apart := false, narrowed := true }
def ImageOwnsUptoSaid : Prop := imageOwnsUptoRow.holds Try.pinned (OpenSpec.upto imageOwnsSpec)

/-- 'vivariumlaw05.ImageCuts', WHERE WHAT IT READS IS OF BULK AT MOST 1048576: true; the input reads as it did. -/
def imageCutsUptoRow : OpenClaim := { program := "ytfinpgkehjbcpaa", sum := "1fd0e21e2ffd466c31936a9a160cfe6a3e87750948ceec713595e634194a112b", func := "vivarium/vivariumlaw05.ImageCuts", spec := "imageCuts", unfollowed := true, recurses := true, apart := false, narrowed := true }
def ImageCutsUptoSaid : Prop := imageCutsUptoRow.holds Try.pinned (OpenSpec.upto imageCutsSpec)

end Rows
end Go.Proofs.Ytfinpgkehjbcpaa

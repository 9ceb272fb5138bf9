/-
  No cell of these rows narrows 'for every input' (looked for: loops, veiled, ifaces, maps, wideKeys, modest, calm, conditions, laid).
  DERIVED. THE GIVEN ROWS OF THIS SEAT. 3 by the template 'for every input the law returns true; each argument reads behind the call as it read before'; 0 by the template 'total and deterministic' (their statements: YtnojndgmgkgnpaaTotals.lean).
  GIVEN WITH THE SEED: the statements are not yours to turn. If you find one false, say at which input.
  Laid BY PROGRAM, IN A SANDBOX (cutbox-rows.mjs): the forced cells as the released guide's own fill.sh prints them over the translation 2abda42b033014d7… (all of the seat's roots in one cut). By AI agents, Wed Nov 11 2026. No macro, syntax, notation, axiom, sorry.
-/
import Derived.Test.YtnojndgmgkgnpaaChecked
import GoSem.Claim
import GoSem.ClaimJoined
import GoSem.ClaimMapViews
import Derived.JoinedTies
import Derived.KernelRfl
namespace Go.Proofs.Ytnojndgmgkgnpaa
/- THE CELL 'sum', in the pinned program and in every row, IS THE sha256 OF THE DUMP (.gsa) THAT YtnojndgmgkgnpaaProg.lean LOADS. Nothing in Lean hashes anything: it is a label: what it is worth is what the hold of that sum in a sandbox is worth. -/
noncomputable def Try.pinned : Pinned := { name := "ytnojndgmgkgnpaa", sum := "2abda42b033014d7026aee2d8c17f45e305068f72c40725639a40f99269782e2", checked := Try.checked }
namespace Rows
def none {H : Type} : Left H := { results := [], args := [] }

/-- 'vivariumlaw10.CompileLits': WHATEVER THE INPUT: true; the input reads as it did. -/
def compileLitsSpec : ChangeSpec := { name := "compileLits", fn := fun _ => fun
  | [d] => { results := [.lit (.bool true)], args := [d] }
  | _ => none }
def compileLitsRow : OpenClaim := { program := "ytnojndgmgkgnpaa", sum := "2abda42b033014d7026aee2d8c17f45e305068f72c40725639a40f99269782e2", func := "vivarium/vivariumlaw10.CompileLits", spec := "compileLits", unfollowed := true, recurses := true, apart := false }
def CompileLitsSaid : Prop := compileLitsRow.holds Try.pinned (OpenSpec.ofChange compileLitsSpec)

/-- ITS FALSE NEIGHBOUR: 'it returns false'. Refute it at one input. -/
def compileLitsWrong : ChangeSpec := { name := "compileLits", fn := fun _ => fun
  | [d] => { results := [.lit (.bool false)], args := [d] }
  | _ => none }
def CompileLitsWrongFalsely : Prop := compileLitsRow.holds Try.pinned (OpenSpec.ofChange compileLitsWrong)

/-- 'vivariumlaw10.CompileJumps': WHATEVER THE INPUT: true; the input reads as it did. -/
def compileJumpsSpec : ChangeSpec := { name := "compileJumps", fn := fun _ => fun
  | [d] => { results := [.lit (.bool true)], args := [d] }
  | _ => none }
def compileJumpsRow : OpenClaim := { program := "ytnojndgmgkgnpaa", sum := "2abda42b033014d7026aee2d8c17f45e305068f72c40725639a40f99269782e2", func := "vivarium/vivariumlaw10.CompileJumps", spec := "compileJumps", unfollowed := true, recurses := true, apart := false }
def CompileJumpsSaid : Prop := compileJumpsRow.holds Try.pinned (OpenSpec.ofChange compileJumpsSpec)

/-- ITS FALSE NEIGHBOUR: 'it returns false'. Refute it at one input. -/
def compileJumpsWrong : ChangeSpec := { name := "compileJumps", fn := fun _ => fun
  | [d] => { results := [.lit (.bool false)], args := [d] }
  | _ => none }
def CompileJumpsWrongFalsely : Prop := compileJumpsRow.holds Try.pinned (OpenSpec.ofChange compileJumpsWrong)

/-- 'vivariumlaw10.CompileTemps': WHATEVER THE INPUT: true; the input reads as it did. -/
def compileTempsSpec : ChangeSpec := { name := "compileTemps", fn := fun _ => fun
  | [d] => { results := [.lit (.bool true)], args := [d] }
  | _ => none }
def compileTempsRow : OpenClaim := { program := "ytnojndgmgkgnpaa", sum := "2abda42b033014d7026aee2d8c17f45e305068f72c40725639a40f99269782e2", func := "vivarium/vivariumlaw10.CompileTemps", spec := "compileTemps", unfollowed := true, recurses := true, apart := false }
def CompileTempsSaid : Prop := compileTempsRow.holds Try.pinned (OpenSpec.ofChange compileTempsSpec)

/-- ITS FALSE NEIGHBOUR: 'it returns false'. Refute it at one input. -/
def compileTempsWrong : ChangeSpec := { name := "compileTemps", fn := fun _ => fun
  | [d] => { results := [.lit (.bool false)], args := [d] }
  | _ => none }
def CompileTempsWrongFalsely : Prop := compileTempsRow.holds Try.pinned (OpenSpec.ofChange compileTempsWrong)

/- THE SECOND FORM. 'bulk': how many values and letters a reading holds, each counted each time it is reached (what is shared counts as often as it is met; a slice's spare places count too). A statement '..UptoSaid' is the law's where the arguments, and the package variables that the reading takes, are together of bulk at most 1048576: NARROWER than '..Said'. Prove '..Said' where nothing that the law and all that it calls make is longer than what came in: it says more and counts as full. Else prove '..UptoSaid'. A law counts once. -/
mutual
def uptoBulk {H : Type} : DataW H → Nat
  | .lit (.string bytes) => bytes.length + 1
  | .lit _ => 1
  | .nil => 1
  | .ptr d => uptoBulk d + 1
  | .slice elems spare => uptoBulkAll elems + uptoBulkAll spare + 1
  | .agg parts => uptoBulkAll parts + 1
  | .iface _ d => uptoBulk d + 1
  | .map entries => uptoBulkEntries entries + 1
  | .held _ => 1
def uptoBulkAll {H : Type} : List (DataW H) → Nat
  | [] => 0
  | d :: r => uptoBulk d + uptoBulkAll r
def uptoBulkEntries {H : Type} : List (Lit × DataW H) → Nat
  | [] => 0
  | x :: r => uptoBulkEntry x + uptoBulkEntries r
def uptoBulkEntry {H : Type} : Lit × DataW H → Nat
  | (.string bytes, d) => bytes.length + uptoBulk d + 1
  | (_, d) => uptoBulk d + 1
 end
def uptoSmall : (H : Type) → List (DataW H) → Bool := fun _ ds => decide (uptoBulkAll ds ≤ 1048576)
def OpenSpec.upto (s : _root_.Go.ChangeSpec) : _root_.Go.OpenSpec := { _root_.Go.OpenSpec.ofChange s with cond := some uptoSmall }

/-- 'vivariumlaw10.CompileLits', WHERE WHAT IT READS IS OF BULK AT MOST 1048576: true; the input reads as it did. -/
def compileLitsUptoRow : OpenClaim := { program := "ytnojndgmgkgnpaa", sum := "2abda42b033014d7026aee2d8c17f45e305068f72c40725639a40f99269782e2", func := "vivarium/vivariumlaw10.CompileLits", spec := "compileLits", unfollowed := true, recurses := true, apart := false, narrowed := true }
def CompileLitsUptoSaid : Prop := compileLitsUptoRow.holds Try.pinned (OpenSpec.upto compileLitsSpec)

/-- 'vivariumlaw10.CompileJumps', WHERE WHAT IT READS IS OF BULK AT MOST 1048576: true; the input reads as it did. -/
def compileJumpsUptoRow : OpenClaim := { program := "ytnojndgmgkgnpaa", sum := "2abda42b033014d7026aee2d8c17f45e305068f72c40725639a40f99269782e2", func := "vivarium/vivariumlaw10.CompileJumps", spec := "compileJumps", unfollowed := true, recurses := true, apart := false, narrowed := true }
def CompileJumpsUptoSaid : Prop := compileJumpsUptoRow.holds Try.pinned (OpenSpec.upto compileJumpsSpec)

/-- 'vivariumlaw10.CompileTemps', WHERE WHAT IT READS IS OF BULK AT MOST 1048576: true; the input reads as it did. -/
def compileTempsUptoRow : OpenClaim := { program := "ytnojndgmgkgnpaa", sum := "2abda42b033014d7026aee2d8c17f45e305068f72c40725639a40f99269782e2", func := "vivarium/vivariumlaw10.CompileTemps", spec := "compileTemps", unfollowed := true, recurses := true, apart := false, narrowed := true }
def CompileTempsUptoSaid : Prop := compileTempsUptoRow.holds Try.pinned (OpenSpec.upto compileTempsSpec)

end Rows
end Go.Proofs.Ytnojndgmgkgnpaa

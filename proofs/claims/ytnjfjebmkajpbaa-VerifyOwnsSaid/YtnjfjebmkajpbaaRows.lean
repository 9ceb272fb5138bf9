/-
  NARROWER THAN 'FOR EVERY INPUT', by the rows' own cells (each row's printed sentence says how): VerifyChecks: loops · VerifyOwns: loops · VerifyMore: loops.
  DERIVED. THE GIVEN ROWS OF THIS SEAT. 4 by the template 'for every input the law returns true; each argument reads behind the call as it read before'; 0 by the template 'total and deterministic' (their statements: YtnjfjebmkajpbaaTotals.lean).
  GIVEN WITH THE SEED: the statements are not yours to turn. If you find one false, say at which input.
  Laid BY PROGRAM, IN A SANDBOX (cutbox-rows.mjs): the forced cells as the released guide's own fill.sh prints them over the translation 39acf58e43ac524e… (all of the seat's roots in one cut). By AI agents, Wed Nov 11 2026. No macro, syntax, notation, axiom, sorry.
-/
import Derived.Test.YtnjfjebmkajpbaaChecked
import GoSem.Claim
import GoSem.ClaimJoined
import GoSem.ClaimMapViews
import Derived.JoinedTies
import Derived.KernelRfl
namespace Go.Proofs.Ytnjfjebmkajpbaa
/- THE CELL 'sum', in the pinned program and in every row, IS THE sha256 OF THE DUMP (.gsa) THAT YtnjfjebmkajpbaaProg.lean LOADS. Nothing in Lean hashes anything: it is a label: what it is worth is what the hold of that sum in a sandbox is worth. -/
noncomputable def Try.pinned : Pinned := { name := "ytnjfjebmkajpbaa", sum := "39acf58e43ac524e7fa091186bb52068389abb05dac2270f0f1fd0e013a354a2", checked := Try.checked }
namespace Rows
def none {H : Type} : Left H := { results := [], args := [] }

/-- 'vivariumlaw11.VerifyChecks': WHATEVER THE INPUT: true; the input reads as it did. -/
def verifyChecksSpec : ChangeSpec := { name := "verifyChecks", fn := fun _ => fun
  | [d1, d2] => { results := [.lit (.bool true)], args := [d1, d2] }
  | _ => none }
def verifyChecksRow : OpenClaim := { program := "ytnjfjebmkajpbaa", sum := "39acf58e43ac524e7fa091186bb52068389abb05dac2270f0f1fd0e013a354a2", func := "vivarium/vivariumlaw11.VerifyChecks", spec := "verifyChecks", unfollowed := true, recurses := true, loops := true, apart := false }
def VerifyChecksSaid : Prop := verifyChecksRow.holds Try.pinned (OpenSpec.ofChange verifyChecksSpec)

/-- ITS FALSE NEIGHBOUR: 'it returns false'. Refute it at one input. -/
def verifyChecksWrong : ChangeSpec := { name := "verifyChecks", fn := fun _ => fun
  | [d1, d2] => { results := [.lit (.bool false)], args := [d1, d2] }
  | _ => none }
def VerifyChecksWrongFalsely : Prop := verifyChecksRow.holds Try.pinned (OpenSpec.ofChange verifyChecksWrong)

/-- 'vivariumlaw11.VerifyOwners': WHATEVER THE INPUT: true; the input reads as it did. -/
def verifyOwnersSpec : ChangeSpec := { name := "verifyOwners", fn := fun _ => fun
  | [d] => { results := [.lit (.bool true)], args := [d] }
  | _ => none }
def verifyOwnersRow : OpenClaim := { program := "ytnjfjebmkajpbaa", sum := "39acf58e43ac524e7fa091186bb52068389abb05dac2270f0f1fd0e013a354a2", func := "vivarium/vivariumlaw11.VerifyOwners", spec := "verifyOwners", unfollowed := true, recurses := true, apart := false }
def VerifyOwnersSaid : Prop := verifyOwnersRow.holds Try.pinned (OpenSpec.ofChange verifyOwnersSpec)

/-- ITS FALSE NEIGHBOUR: 'it returns false'. Refute it at one input. -/
def verifyOwnersWrong : ChangeSpec := { name := "verifyOwners", fn := fun _ => fun
  | [d] => { results := [.lit (.bool false)], args := [d] }
  | _ => none }
def VerifyOwnersWrongFalsely : Prop := verifyOwnersRow.holds Try.pinned (OpenSpec.ofChange verifyOwnersWrong)

/-- 'vivariumlaw11.VerifyOwns': WHATEVER THE INPUT: true; the input reads as it did. -/
def verifyOwnsSpec : ChangeSpec := { name := "verifyOwns", fn := fun _ => fun
  | [d1, d2] => { results := [.lit (.bool true)], args := [d1, d2] }
  | _ => none }
def verifyOwnsRow : OpenClaim := { program := "ytnjfjebmkajpbaa", sum := "39acf58e43ac524e7fa091186bb52068389abb05dac2270f0f1fd0e013a354a2", func := "vivarium/vivariumlaw11.VerifyOwns", spec := "verifyOwns", unfollowed := true, recurses := true, loops := true, apart := false }
def VerifyOwnsSaid : Prop := verifyOwnsRow.holds Try.pinned (OpenSpec.ofChange verifyOwnsSpec)

/-- ITS FALSE NEIGHBOUR: 'it returns false'. Refute it at one input. -/
def verifyOwnsWrong : ChangeSpec := { name := "verifyOwns", fn := fun _ => fun
  | [d1, d2] => { results := [.lit (.bool false)], args := [d1, d2] }
  | _ => none }
def VerifyOwnsWrongFalsely : Prop := verifyOwnsRow.holds Try.pinned (OpenSpec.ofChange verifyOwnsWrong)

/-- 'vivariumlaw11.VerifyMore': WHATEVER THE INPUT: true; the input reads as it did. -/
def verifyMoreSpec : ChangeSpec := { name := "verifyMore", fn := fun _ => fun
  | [d1, d2, d3, d4] => { results := [.lit (.bool true)], args := [d1, d2, d3, d4] }
  | _ => none }
def verifyMoreRow : OpenClaim := { program := "ytnjfjebmkajpbaa", sum := "39acf58e43ac524e7fa091186bb52068389abb05dac2270f0f1fd0e013a354a2", func := "vivarium/vivariumlaw11.VerifyMore", spec := "verifyMore", unfollowed := true, recurses := true, loops := true, apart := false }
def VerifyMoreSaid : Prop := verifyMoreRow.holds Try.pinned (OpenSpec.ofChange verifyMoreSpec)

/-- ITS FALSE NEIGHBOUR: 'it returns false'. Refute it at one input. -/
def verifyMoreWrong : ChangeSpec := { name := "verifyMore", fn := fun _ => fun
  | [d1, d2, d3, d4] => { results := [.lit (.bool false)], args := [d1, d2, d3, d4] }
  | _ => none }
def VerifyMoreWrongFalsely : Prop := verifyMoreRow.holds Try.pinned (OpenSpec.ofChange verifyMoreWrong)

/- THE SECOND FORM. 'bulk': how many values and letters a reading holds, each counted each time it is reached (what is shared counts as often as it is met; a slice's spare places count too). A statement '..UptoSaid' is the law's where the arguments, and the package variables that the reading takes, are together of bulk at most 1048576: NARROWER than '..Said'. Prove '..Said' where nothing that the law and all that it calls make is longer than what came in: it says more and counts as full. Else prove '..UptoSaid'. A law counts once. -/
mutual
def uptoBulk {H : Type} : DataW H → Nat
  | .lit (.string bytes) => bytes.length + 1
  | .lit _ => 1
  | .nil => 1
  | .ptr d => uptoBulk d + 1
  | .slice elems spare => uptoBulkAll elems + uptoBulkAll spare + 1
  | .agg parts => uptoBulkAll parts + 1
  | .iface _ d => uptoBulk d + 1
  | .map entries => uptoBulkEntries entries + 1
  | .held _ => 1
def uptoBulkAll {H : Type} : List (DataW H) → Nat
  | [] => 0
  | d :: r => uptoBulk d + uptoBulkAll r
def uptoBulkEntries {H : Type} : List (Lit × DataW H) → Nat
  | [] => 0
  | x :: r => uptoBulkEntry x + uptoBulkEntries r
def uptoBulkEntry {H : Type} : Lit × DataW H → Nat
  | (.string bytes, d) => bytes.length + uptoBulk d + 1
  | (_, d) => uptoBulk d + 1
 end
def uptoSmall : (H : Type) → List (DataW H) → Bool := fun _ ds => decide (uptoBulkAll ds ≤ 1048576)
def OpenSpec.upto (s : _root_.Go.ChangeSpec) : _root_.Go.OpenSpec := { _root_.Go.OpenSpec.ofChange s with cond := some uptoSmall }

/-- 'vivariumlaw11.VerifyChecks', WHERE WHAT IT READS IS OF BULK AT MOST 1048576: true; the input reads as it did. -/
def verifyChecksUptoRow : OpenClaim := { program := "ytnjfjebmkajpbaa", sum := "39acf58e43ac524e7fa091186bb52068389abb05dac2270f0f1fd0e013a354a2", func := "vivarium/vivariumlaw11.VerifyChecks", spec := "verifyChecks", unfollowed := true, recurses := true, loops := true, apart := false, narrowed := true }
def VerifyChecksUptoSaid : Prop := verifyChecksUptoRow.holds Try.pinned (OpenSpec.upto verifyChecksSpec)

/-- 'vivariumlaw11.VerifyOwners', WHERE WHAT IT READS IS OF BULK AT MOST 1048576: true; the input reads as it did. -/
def verifyOwnersUptoRow : OpenClaim := { program := "ytnjfjebmkajpbaa", sum := "39acf58e43ac524e7fa091186bb52068389abb05dac2270f0f1fd0e013a354a2", func := "vivarium/vivariumlaw11.VerifyOwners", spec := "verifyOwners", unfollowed := true, recurses := true, apart := false, narrowed := true }
def VerifyOwnersUptoSaid : Prop := verifyOwnersUptoRow.holds Try.pinned (OpenSpec.upto verifyOwnersSpec)

/-- 'vivariumlaw11.VerifyOwns', WHERE WHAT IT READS IS OF BULK AT MOST 1048576: true; the input reads as it did. -/
def verifyOwnsUptoRow : OpenClaim := { program := "ytnjfjebmkajpbaa", sum := "39acf58e43ac524e7fa091186bb52068389abb05dac2270f0f1fd0e013a354a2", func := "vivarium/vivariumlaw11.VerifyOwns", spec := "verifyOwns", unfollowed := true, recurses := true, loops := true, apart := false, narrowed := true }
def VerifyOwnsUptoSaid : Prop := verifyOwnsUptoRow.holds Try.pinned (OpenSpec.upto verifyOwnsSpec)

/-- 'vivariumlaw11.VerifyMore', WHERE WHAT IT READS IS OF BULK AT MOST 1048576: true; the input reads as it did. -/
def verifyMoreUptoRow : OpenClaim := { program := "ytnjfjebmkajpbaa", sum := "39acf58e43ac524e7fa091186bb52068389abb05dac2270f0f1fd0e013a354a2", func := "vivarium/vivariumlaw11.VerifyMore", spec := "verifyMore", unfollowed := true, recurses := true, loops := true, apart := false, narrowed := true }
def VerifyMoreUptoSaid : Prop := verifyMoreUptoRow.holds Try.pinned (OpenSpec.upto verifyMoreSpec)

end Rows
end Go.Proofs.Ytnjfjebmkajpbaa

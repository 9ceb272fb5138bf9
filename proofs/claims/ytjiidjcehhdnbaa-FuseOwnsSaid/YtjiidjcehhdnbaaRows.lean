/-
  NARROWER THAN 'FOR EVERY INPUT', by the rows' own cells (each row's printed sentence says how): FusePlans: loops · FuseOperands: loops · FuseApplies: loops · FuseForged: loops · FuseOwns: loops · FuseCovers: loops.
  DERIVED. THE GIVEN ROWS OF THIS SEAT. 6 by the template 'for every input the law returns true; each argument reads behind the call as it read before'; 0 by the template 'total and deterministic' (their statements: YtjiidjcehhdnbaaTotals.lean).
  GIVEN WITH THE SEED: the statements are not yours to turn. If you find one false, say at which input.
  Laid BY PROGRAM, IN A SANDBOX (cutbox-rows.mjs): the forced cells as the released guide's own fill.sh prints them over the translation c27e804d2c7c93d2… (all of the seat's roots in one cut). By AI agents, Wed Nov 11 2026. No macro, syntax, notation, axiom, sorry.
-/
import Derived.Test.YtjiidjcehhdnbaaChecked
import GoSem.Claim
import GoSem.ClaimJoined
import GoSem.ClaimMapViews
import Derived.JoinedTies
import Derived.KernelRfl
namespace Go.Proofs.Ytjiidjcehhdnbaa
/- THE CELL 'sum', in the pinned program and in every row, IS THE sha256 OF THE DUMP (.gsa) THAT YtjiidjcehhdnbaaProg.lean LOADS. Nothing in Lean hashes anything: it is a label: what it is worth is what the hold of that sum in a sandbox is worth. -/
noncomputable def Try.pinned : Pinned := { name := "ytjiidjcehhdnbaa", sum := "c27e804d2c7c93d2e4b865067fb86be9f5423956ab5325f32b091f11495991df", checked := Try.checked }
namespace Rows
def none {H : Type} : Left H := { results := [], args := [] }

/-- 'vivariumlaw18.FusePlans': WHATEVER THE INPUT: true; the input reads as it did. -/
def fusePlansSpec : ChangeSpec := { name := "fusePlans", fn := fun _ => fun
  | [d] => { results := [.lit (.bool true)], args := [d] }
  | _ => none }
def fusePlansRow : OpenClaim := { program := "ytjiidjcehhdnbaa", sum := "c27e804d2c7c93d2e4b865067fb86be9f5423956ab5325f32b091f11495991df", func := "vivarium/vivariumlaw18.FusePlans", spec := "fusePlans", loops := true, apart := false }
def FusePlansSaid : Prop := fusePlansRow.holds Try.pinned (OpenSpec.ofChange fusePlansSpec)

/-- ITS FALSE NEIGHBOUR: 'it returns false'. Refute it at one input. -/
def fusePlansWrong : ChangeSpec := { name := "fusePlans", fn := fun _ => fun
  | [d] => { results := [.lit (.bool false)], args := [d] }
  | _ => none }
def FusePlansWrongFalsely : Prop := fusePlansRow.holds Try.pinned (OpenSpec.ofChange fusePlansWrong)

/-- 'vivariumlaw18.FuseOperands': WHATEVER THE INPUT: true; the input reads as it did. -/
def fuseOperandsSpec : ChangeSpec := { name := "fuseOperands", fn := fun _ => fun
  | [d1, d2, d3, d4, d5] => { results := [.lit (.bool true)], args := [d1, d2, d3, d4, d5] }
  | _ => none }
def fuseOperandsRow : OpenClaim := { program := "ytjiidjcehhdnbaa", sum := "c27e804d2c7c93d2e4b865067fb86be9f5423956ab5325f32b091f11495991df", func := "vivarium/vivariumlaw18.FuseOperands", spec := "fuseOperands", loops := true, apart := false }
def FuseOperandsSaid : Prop := fuseOperandsRow.holds Try.pinned (OpenSpec.ofChange fuseOperandsSpec)

/-- ITS FALSE NEIGHBOUR: 'it returns false'. Refute it at one input. -/
def fuseOperandsWrong : ChangeSpec := { name := "fuseOperands", fn := fun _ => fun
  | [d1, d2, d3, d4, d5] => { results := [.lit (.bool false)], args := [d1, d2, d3, d4, d5] }
  | _ => none }
def FuseOperandsWrongFalsely : Prop := fuseOperandsRow.holds Try.pinned (OpenSpec.ofChange fuseOperandsWrong)

/-- 'vivariumlaw18.FuseApplies': WHATEVER THE INPUT: true; the input reads as it did. -/
def fuseAppliesSpec : ChangeSpec := { name := "fuseApplies", fn := fun _ => fun
  | [d1, d2, d3, d4] => { results := [.lit (.bool true)], args := [d1, d2, d3, d4] }
  | _ => none }
def fuseAppliesRow : OpenClaim := { program := "ytjiidjcehhdnbaa", sum := "c27e804d2c7c93d2e4b865067fb86be9f5423956ab5325f32b091f11495991df", func := "vivarium/vivariumlaw18.FuseApplies", spec := "fuseApplies", loops := true, apart := false }
def FuseAppliesSaid : Prop := fuseAppliesRow.holds Try.pinned (OpenSpec.ofChange fuseAppliesSpec)

/-- ITS FALSE NEIGHBOUR: 'it returns false'. Refute it at one input. -/
def fuseAppliesWrong : ChangeSpec := { name := "fuseApplies", fn := fun _ => fun
  | [d1, d2, d3, d4] => { results := [.lit (.bool false)], args := [d1, d2, d3, d4] }
  | _ => none }
def FuseAppliesWrongFalsely : Prop := fuseAppliesRow.holds Try.pinned (OpenSpec.ofChange fuseAppliesWrong)

/-- 'vivariumlaw18.FuseForged': WHATEVER THE INPUT: true; the input reads as it did. -/
def fuseForgedSpec : ChangeSpec := { name := "fuseForged", fn := fun _ => fun
  | [d1, d2, d3, d4, d5] => { results := [.lit (.bool true)], args := [d1, d2, d3, d4, d5] }
  | _ => none }
def fuseForgedRow : OpenClaim := { program := "ytjiidjcehhdnbaa", sum := "c27e804d2c7c93d2e4b865067fb86be9f5423956ab5325f32b091f11495991df", func := "vivarium/vivariumlaw18.FuseForged", spec := "fuseForged", loops := true, apart := false }
def FuseForgedSaid : Prop := fuseForgedRow.holds Try.pinned (OpenSpec.ofChange fuseForgedSpec)

/-- ITS FALSE NEIGHBOUR: 'it returns false'. Refute it at one input. -/
def fuseForgedWrong : ChangeSpec := { name := "fuseForged", fn := fun _ => fun
  | [d1, d2, d3, d4, d5] => { results := [.lit (.bool false)], args := [d1, d2, d3, d4, d5] }
  | _ => none }
def FuseForgedWrongFalsely : Prop := fuseForgedRow.holds Try.pinned (OpenSpec.ofChange fuseForgedWrong)

/-- 'vivariumlaw18.FuseOwns': WHATEVER THE INPUT: true; the input reads as it did. -/
def fuseOwnsSpec : ChangeSpec := { name := "fuseOwns", fn := fun _ => fun
  | [d1, d2] => { results := [.lit (.bool true)], args := [d1, d2] }
  | _ => none }
def fuseOwnsRow : OpenClaim := { program := "ytjiidjcehhdnbaa", sum := "c27e804d2c7c93d2e4b865067fb86be9f5423956ab5325f32b091f11495991df", func := "vivarium/vivariumlaw18.FuseOwns", spec := "fuseOwns", loops := true, apart := false }
def FuseOwnsSaid : Prop := fuseOwnsRow.holds Try.pinned (OpenSpec.ofChange fuseOwnsSpec)

/-- ITS FALSE NEIGHBOUR: 'it returns false'. Refute it at one input. -/
def fuseOwnsWrong : ChangeSpec := { name := "fuseOwns", fn := fun _ => fun
  | [d1, d2] => { results := [.lit (.bool false)], args := [d1, d2] }
  | _ => none }
def FuseOwnsWrongFalsely : Prop := fuseOwnsRow.holds Try.pinned (OpenSpec.ofChange fuseOwnsWrong)

/-- 'vivariumlaw18.FuseCovers': WHATEVER THE INPUT: true; the input reads as it did. -/
def fuseCoversSpec : ChangeSpec := { name := "fuseCovers", fn := fun _ => fun
  | [d] => { results := [.lit (.bool true)], args := [d] }
  | _ => none }
def fuseCoversRow : OpenClaim := { program := "ytjiidjcehhdnbaa", sum := "c27e804d2c7c93d2e4b865067fb86be9f5423956ab5325f32b091f11495991df", func := "vivarium/vivariumlaw18.FuseCovers", spec := "fuseCovers", loops := true, apart := false }
def FuseCoversSaid : Prop := fuseCoversRow.holds Try.pinned (OpenSpec.ofChange fuseCoversSpec)

/-- ITS FALSE NEIGHBOUR: 'it returns false'. Refute it at one input. -/
def fuseCoversWrong : ChangeSpec := { name := "fuseCovers", fn := fun _ => fun
  | [d] => { results := [.lit (.bool false)], args := [d] }
  | _ => none }
def FuseCoversWrongFalsely : Prop := fuseCoversRow.holds Try.pinned (OpenSpec.ofChange fuseCoversWrong)

/- THE SECOND FORM. 'bulk': how many values and letters a reading holds, each counted each time it is reached (what is shared counts as often as it is met; a slice's spare places count too). A statement '..UptoSaid' is the law's where the arguments, and the package variables that the reading takes, are together of bulk at most 1048576: NARROWER than '..Said'. Prove '..Said' where nothing that the law and all that it calls make is longer than what came in: it says more and counts as full. Else prove '..UptoSaid'. A law counts once. -/
mutual
def uptoBulk {H : Type} : DataW H → Nat
  | .lit (.string bytes) => bytes.length + 1
  | .lit _ => 1
  | .nil => 1
  | .ptr d => uptoBulk d + 1
  | .slice elems spare => uptoBulkAll elems + uptoBulkAll spare + 1
  | .agg parts => uptoBulkAll parts + 1
  | .iface _ d => uptoBulk d + 1
  | .map entries => uptoBulkEntries entries + 1
  | .held _ => 1
def uptoBulkAll {H : Type} : List (DataW H) → Nat
  | [] => 0
  | d :: r => uptoBulk d + uptoBulkAll r
def uptoBulkEntries {H : Type} : List (Lit × DataW H) → Nat
  | [] => 0
  | x :: r => uptoBulkEntry x + uptoBulkEntries r
def uptoBulkEntry {H : Type} : Lit × DataW H → Nat
  | (.string bytes, d) => bytes.length + uptoBulk d + 1
  | (_, d) => uptoBulk d + 1
 end
def uptoSmall : (H : Type) → List (DataW H) → Bool := fun _ ds => decide (uptoBulkAll ds ≤ 1048576)
def OpenSpec.upto (s : _root_.Go.ChangeSpec) : _root_.Go.OpenSpec := { _root_.Go.OpenSpec.ofChange s with cond := some uptoSmall }

/-- 'vivariumlaw18.FusePlans', WHERE WHAT IT READS IS OF BULK AT MOST 1048576: true; the input reads as it did. -/
def fusePlansUptoRow : OpenClaim := { program := "ytjiidjcehhdnbaa", sum := "c27e804d2c7c93d2e4b865067fb86be9f5423956ab5325f32b091f11495991df", func := "vivarium/vivariumlaw18.FusePlans", spec := "fusePlans", loops := true, apart := false, narrowed := true }
def FusePlansUptoSaid : Prop := fusePlansUptoRow.holds Try.pinned (OpenSpec.upto fusePlansSpec)

/-- 'vivariumlaw18.FuseOperands', WHERE WHAT IT READS IS OF BULK AT MOST 1048576: true; the input reads as it did. -/
def fuseOperandsUptoRow : OpenClaim := { program := "ytjiidjcehhdnbaa", sum := "c27e804d2c7c93d2e4b865067fb86be9f5423956ab5325f32b091f11495991df", func := "vivarium/vivariumlaw18.FuseOperands", spec := "fuseOperands", loops := true, apart := false, narrowed := true }
def FuseOperandsUptoSaid : Prop := fuseOperandsUptoRow.holds Try.pinned (OpenSpec.upto fuseOperandsSpec)

/-- 'vivariumlaw18.FuseApplies', WHERE WHAT IT READS IS OF BULK AT MOST 1048576: true; the input reads as it did. -/
def fuseAppliesUptoRow : OpenClaim := { program := "ytjiidjcehhdnbaa", sum := "c27e804d2c7c93d2e4b865067fb86be9f5423956ab5325f32b091f11495991df", func := "vivarium/vivariumlaw18.FuseApplies", spec := "fuseApplies", loops := true, apart := false, narrowed := true }
def FuseAppliesUptoSaid : Prop := fuseAppliesUptoRow.holds Try.pinned (OpenSpec.upto fuseAppliesSpec)

/-- 'vivariumlaw18.FuseForged', WHERE WHAT IT READS IS OF BULK AT MOST 1048576: true; the input reads as it did. -/
def fuseForgedUptoRow : OpenClaim := { program := "ytjiidjcehhdnbaa", sum := "c27e804d2c7c93d2e4b865067fb86be9f5423956ab5325f32b091f11495991df", func := "vivarium/vivariumlaw18.FuseForged", spec := "fuseForged", loops := true, apart := false, narrowed := true }
def FuseForgedUptoSaid : Prop := fuseForgedUptoRow.holds Try.pinned (OpenSpec.upto fuseForgedSpec)

/-- 'vivariumlaw18.FuseOwns', WHERE WHAT IT READS IS OF BULK AT MOST 1048576: true; the input reads as it did. -/
def fuseOwnsUptoRow : OpenClaim := { program := "ytjiidjcehhdnbaa", sum := "c27e804d2c7c93d2e4b865067fb86be9f5423956ab5325f32b091f11495991df", func := "vivarium/vivariumlaw18.FuseOwns", spec := "fuseOwns", loops := true, apart := false, narrowed := true }
def FuseOwnsUptoSaid : Prop := fuseOwnsUptoRow.holds Try.pinned (OpenSpec.upto fuseOwnsSpec)

/-- 'vivariumlaw18.FuseCovers', WHERE WHAT IT READS IS OF BULK AT MOST 1048576: true; the input reads as it did. -/
def fuseCoversUptoRow : OpenClaim := { program := "ytjiidjcehhdnbaa", sum := "c27e804d2c7c93d2e4b865067fb86be9f5423956ab5325f32b091f11495991df", func := "vivarium/vivariumlaw18.FuseCovers", spec := "fuseCovers", loops := true, apart := false, narrowed := true }
def FuseCoversUptoSaid : Prop := fuseCoversUptoRow.holds Try.pinned (OpenSpec.upto fuseCoversSpec)

end Rows
end Go.Proofs.Ytjiidjcehhdnbaa

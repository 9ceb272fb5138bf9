/-
  NARROWER THAN 'FOR EVERY INPUT', by the rows' own cells (each row's printed sentence says how): CodePuts: laid · CodeOne: laid · CodeLeads: laid · CodeTexts: laid · CodeJoined: laid · CodeReads: laid · CodeRound: laid.
  DERIVED. THE GIVEN ROWS OF THIS SEAT. 7 by the template 'for every input the law returns true; each argument reads behind the call as it read before'; 0 by the template 'total and deterministic' (their statements: YtclndbiljhbbkaaDoorTotals.lean).
  GIVEN WITH THE SEED: the statements are not yours to turn. If you find one false, say at which input.
  Laid BY PROGRAM, IN A SANDBOX (cutbox-rows.mjs): the forced cells as the released guide's own fill.sh prints them over the translation 24cce49181812ff8… (all of the seat's roots in one cut). By AI agents, Wed Nov 11 2026. No macro, syntax, notation, axiom, sorry.
-/
import Derived.Test.YtclndbiljhbbkaaDoorChecked
import GoSem.Claim
import GoSem.ClaimJoined
import GoSem.ClaimMapViews
import Derived.JoinedTies
import Derived.KernelRfl
namespace Go.Proofs.YtclndbiljhbbkaaDoor
/- THE CELL 'sum', in the pinned program and in every row, IS THE sha256 OF THE DUMP (.gsa) THAT YtclndbiljhbbkaaDoorProg.lean LOADS. Nothing in Lean hashes anything: it is a label: what it is worth is what the hold of that sum in a sandbox is worth. -/
noncomputable def Tryd.pinned : Pinned := { name := "ytclndbiljhbbkaadoor", sum := "24cce49181812ff81179d89ee5ecab646ac0be66547c234e230fe881a1db47e8", checked := Tryd.checked }
namespace Rows
def none {H : Type} : Left H := { results := [], args := [] }

/- WHAT THE LISTED PACKAGE-LEVEL VARIABLES READ AS WHEN THE CALL BEGINS. Each datum BY PROGRAM (the guide's laid-datum.mjs) off the statement by which the dump's own 'gosem.cut.vars' lays the variable. In a bare row this is a premise. The card (YtclndbiljhbbkaaDoorCards.lean) ties it to the program's text. -/
def laid_math_bits_deBruijn32tab {H : Type} : DataW H := .agg [.lit (.int .u8 0), .lit (.int .u8 1), .lit (.int .u8 28), .lit (.int .u8 2), .lit (.int .u8 29), .lit (.int .u8 14), .lit (.int .u8 24), .lit (.int .u8 3), .lit (.int .u8 30), .lit (.int .u8 22), .lit (.int .u8 20), .lit (.int .u8 15), .lit (.int .u8 25), .lit (.int .u8 17), .lit (.int .u8 4), .lit (.int .u8 8), .lit (.int .u8 31), .lit (.int .u8 27), .lit (.int .u8 13), .lit (.int .u8 23), .lit (.int .u8 21), .lit (.int .u8 19), .lit (.int .u8 16), .lit (.int .u8 7), .lit (.int .u8 26), .lit (.int .u8 12), .lit (.int .u8 18), .lit (.int .u8 6), .lit (.int .u8 11), .lit (.int .u8 5), .lit (.int .u8 10), .lit (.int .u8 9)]
def laid_math_bits_deBruijn64tab {H : Type} : DataW H := .agg [.lit (.int .u8 0), .lit (.int .u8 1), .lit (.int .u8 56), .lit (.int .u8 2), .lit (.int .u8 57), .lit (.int .u8 49), .lit (.int .u8 28), .lit (.int .u8 3), .lit (.int .u8 61), .lit (.int .u8 58), .lit (.int .u8 42), .lit (.int .u8 50), .lit (.int .u8 38), .lit (.int .u8 29), .lit (.int .u8 17), .lit (.int .u8 4), .lit (.int .u8 62), .lit (.int .u8 47), .lit (.int .u8 59), .lit (.int .u8 36), .lit (.int .u8 45), .lit (.int .u8 43), .lit (.int .u8 51), .lit (.int .u8 22), .lit (.int .u8 53), .lit (.int .u8 39), .lit (.int .u8 33), .lit (.int .u8 30), .lit (.int .u8 24), .lit (.int .u8 18), .lit (.int .u8 12), .lit (.int .u8 5), .lit (.int .u8 63), .lit (.int .u8 55), .lit (.int .u8 48), .lit (.int .u8 27), .lit (.int .u8 60), .lit (.int .u8 41), .lit (.int .u8 37), .lit (.int .u8 16), .lit (.int .u8 46), .lit (.int .u8 35), .lit (.int .u8 44), .lit (.int .u8 21), .lit (.int .u8 52), .lit (.int .u8 32), .lit (.int .u8 23), .lit (.int .u8 11), .lit (.int .u8 54), .lit (.int .u8 26), .lit (.int .u8 40), .lit (.int .u8 15), .lit (.int .u8 34), .lit (.int .u8 20), .lit (.int .u8 31), .lit (.int .u8 10), .lit (.int .u8 25), .lit (.int .u8 14), .lit (.int .u8 19), .lit (.int .u8 9), .lit (.int .u8 13), .lit (.int .u8 8), .lit (.int .u8 7), .lit (.int .u8 6)]
def laid_internal_strconv_uint64pow10 {H : Type} : DataW H := .agg [.lit (.int .u64 1), .lit (.int .u64 10), .lit (.int .u64 100), .lit (.int .u64 1000), .lit (.int .u64 10000), .lit (.int .u64 100000), .lit (.int .u64 1000000), .lit (.int .u64 10000000), .lit (.int .u64 100000000), .lit (.int .u64 1000000000), .lit (.int .u64 10000000000), .lit (.int .u64 100000000000), .lit (.int .u64 1000000000000), .lit (.int .u64 10000000000000), .lit (.int .u64 100000000000000), .lit (.int .u64 1000000000000000), .lit (.int .u64 10000000000000000), .lit (.int .u64 100000000000000000), .lit (.int .u64 1000000000000000000), .lit (.int .u64 10000000000000000000)]
def laid_vivarium_code_names {H : Type} : DataW H := .agg [.lit (.string []), .lit (.string [115, 101, 108, 102]), .lit (.string [110, 105, 108]), .lit (.string [116, 114, 117, 101]), .lit (.string [102, 97, 108, 115, 101]), .lit (.string [99, 111, 110, 116, 101, 120, 116]), .lit (.string [108, 105, 116]), .lit (.string [116, 101, 109, 112]), .lit (.string [105, 118, 97, 114]), .lit (.string [103, 108, 111, 98, 97, 108]), .lit (.string [116, 111, 116, 101, 109, 112]), .lit (.string [116, 111, 105, 118, 97, 114]), .lit (.string [112, 111, 112]), .lit (.string [100, 117, 112]), .lit (.string [115, 101, 110, 100]), .lit (.string [115, 117, 112, 101, 114]), .lit (.string [106, 117, 109, 112]), .lit (.string [105, 102, 110, 111, 116]), .lit (.string [98, 108, 111, 99, 107]), .lit (.string [101, 110, 100]), .lit (.string [114, 101, 116, 117, 114, 110])]

/-- 'vivariumlaw09.CodePuts': WHATEVER THE INPUT: true; the input reads as it did. -/
def codePutsSpec : ChangeSpec := { name := "codePuts", fn := fun _ => fun
  | [d] => { results := [.lit (.bool true)], args := [d] }
  | _ => none }
def codePutsRow : OpenClaim := { program := "ytclndbiljhbbkaadoor", sum := "24cce49181812ff81179d89ee5ecab646ac0be66547c234e230fe881a1db47e8", func := "vivarium/vivariumlaw09.CodePuts", spec := "codePuts", named := ["vivarium/code.names", "internal/strconv.uint64pow10", "math/bits.deBruijn32tab", "math/bits.deBruijn64tab"], apart := false, laid := [("math/bits.deBruijn32tab", laid_math_bits_deBruijn32tab), ("math/bits.deBruijn64tab", laid_math_bits_deBruijn64tab), ("internal/strconv.uint64pow10", laid_internal_strconv_uint64pow10), ("vivarium/code.names", laid_vivarium_code_names)] }
def CodePutsSaid : Prop := codePutsRow.holds Tryd.pinned (OpenSpec.ofChange codePutsSpec)

/-- ITS FALSE NEIGHBOUR: 'it returns false'. Refute it at one input. -/
def codePutsWrong : ChangeSpec := { name := "codePuts", fn := fun _ => fun
  | [d] => { results := [.lit (.bool false)], args := [d] }
  | _ => none }
def CodePutsWrongFalsely : Prop := codePutsRow.holds Tryd.pinned (OpenSpec.ofChange codePutsWrong)

/-- 'vivariumlaw09.CodeOne': WHATEVER THE INPUT: true; the input reads as it did. -/
def codeOneSpec : ChangeSpec := { name := "codeOne", fn := fun _ => fun
  | [d1, d2, d3] => { results := [.lit (.bool true)], args := [d1, d2, d3] }
  | _ => none }
def codeOneRow : OpenClaim := { program := "ytclndbiljhbbkaadoor", sum := "24cce49181812ff81179d89ee5ecab646ac0be66547c234e230fe881a1db47e8", func := "vivarium/vivariumlaw09.CodeOne", spec := "codeOne", named := ["vivarium/code.names", "internal/strconv.uint64pow10", "math/bits.deBruijn32tab", "math/bits.deBruijn64tab"], apart := false, laid := [("math/bits.deBruijn32tab", laid_math_bits_deBruijn32tab), ("math/bits.deBruijn64tab", laid_math_bits_deBruijn64tab), ("internal/strconv.uint64pow10", laid_internal_strconv_uint64pow10), ("vivarium/code.names", laid_vivarium_code_names)] }
def CodeOneSaid : Prop := codeOneRow.holds Tryd.pinned (OpenSpec.ofChange codeOneSpec)

/-- ITS FALSE NEIGHBOUR: 'it returns false'. Refute it at one input. -/
def codeOneWrong : ChangeSpec := { name := "codeOne", fn := fun _ => fun
  | [d1, d2, d3] => { results := [.lit (.bool false)], args := [d1, d2, d3] }
  | _ => none }
def CodeOneWrongFalsely : Prop := codeOneRow.holds Tryd.pinned (OpenSpec.ofChange codeOneWrong)

/-- 'vivariumlaw09.CodeLeads': WHATEVER THE INPUT: true; the input reads as it did. -/
def codeLeadsSpec : ChangeSpec := { name := "codeLeads", fn := fun _ => fun
  | [d] => { results := [.lit (.bool true)], args := [d] }
  | _ => none }
def codeLeadsRow : OpenClaim := { program := "ytclndbiljhbbkaadoor", sum := "24cce49181812ff81179d89ee5ecab646ac0be66547c234e230fe881a1db47e8", func := "vivarium/vivariumlaw09.CodeLeads", spec := "codeLeads", named := ["vivarium/code.names", "internal/strconv.uint64pow10", "math/bits.deBruijn32tab", "math/bits.deBruijn64tab"], apart := false, laid := [("math/bits.deBruijn32tab", laid_math_bits_deBruijn32tab), ("math/bits.deBruijn64tab", laid_math_bits_deBruijn64tab), ("internal/strconv.uint64pow10", laid_internal_strconv_uint64pow10), ("vivarium/code.names", laid_vivarium_code_names)] }
def CodeLeadsSaid : Prop := codeLeadsRow.holds Tryd.pinned (OpenSpec.ofChange codeLeadsSpec)

/-- ITS FALSE NEIGHBOUR: 'it returns false'. Refute it at one input. -/
def codeLeadsWrong : ChangeSpec := { name := "codeLeads", fn := fun _ => fun
  | [d] => { results := [.lit (.bool false)], args := [d] }
  | _ => none }
def CodeLeadsWrongFalsely : Prop := codeLeadsRow.holds Tryd.pinned (OpenSpec.ofChange codeLeadsWrong)

/-- 'vivariumlaw09.CodeTexts': WHATEVER THE INPUT: true; the input reads as it did. -/
def codeTextsSpec : ChangeSpec := { name := "codeTexts", fn := fun _ => fun
  | [d] => { results := [.lit (.bool true)], args := [d] }
  | _ => none }
def codeTextsRow : OpenClaim := { program := "ytclndbiljhbbkaadoor", sum := "24cce49181812ff81179d89ee5ecab646ac0be66547c234e230fe881a1db47e8", func := "vivarium/vivariumlaw09.CodeTexts", spec := "codeTexts", recurses := true, named := ["vivarium/code.names", "internal/strconv.uint64pow10", "math/bits.deBruijn32tab", "math/bits.deBruijn64tab"], apart := false, laid := [("math/bits.deBruijn32tab", laid_math_bits_deBruijn32tab), ("math/bits.deBruijn64tab", laid_math_bits_deBruijn64tab), ("internal/strconv.uint64pow10", laid_internal_strconv_uint64pow10), ("vivarium/code.names", laid_vivarium_code_names)] }
def CodeTextsSaid : Prop := codeTextsRow.holds Tryd.pinned (OpenSpec.ofChange codeTextsSpec)

/-- ITS FALSE NEIGHBOUR: 'it returns false'. Refute it at one input. -/
def codeTextsWrong : ChangeSpec := { name := "codeTexts", fn := fun _ => fun
  | [d] => { results := [.lit (.bool false)], args := [d] }
  | _ => none }
def CodeTextsWrongFalsely : Prop := codeTextsRow.holds Tryd.pinned (OpenSpec.ofChange codeTextsWrong)

/-- 'vivariumlaw09.CodeJoined': WHATEVER THE INPUT: true; the input reads as it did. -/
def codeJoinedSpec : ChangeSpec := { name := "codeJoined", fn := fun _ => fun
  | [d1, d2] => { results := [.lit (.bool true)], args := [d1, d2] }
  | _ => none }
def codeJoinedRow : OpenClaim := { program := "ytclndbiljhbbkaadoor", sum := "24cce49181812ff81179d89ee5ecab646ac0be66547c234e230fe881a1db47e8", func := "vivarium/vivariumlaw09.CodeJoined", spec := "codeJoined", named := ["vivarium/code.names", "internal/strconv.uint64pow10", "math/bits.deBruijn32tab", "math/bits.deBruijn64tab"], apart := false, laid := [("math/bits.deBruijn32tab", laid_math_bits_deBruijn32tab), ("math/bits.deBruijn64tab", laid_math_bits_deBruijn64tab), ("internal/strconv.uint64pow10", laid_internal_strconv_uint64pow10), ("vivarium/code.names", laid_vivarium_code_names)] }
def CodeJoinedSaid : Prop := codeJoinedRow.holds Tryd.pinned (OpenSpec.ofChange codeJoinedSpec)

/-- ITS FALSE NEIGHBOUR: 'it returns false'. Refute it at one input. -/
def codeJoinedWrong : ChangeSpec := { name := "codeJoined", fn := fun _ => fun
  | [d1, d2] => { results := [.lit (.bool false)], args := [d1, d2] }
  | _ => none }
def CodeJoinedWrongFalsely : Prop := codeJoinedRow.holds Tryd.pinned (OpenSpec.ofChange codeJoinedWrong)

/-- 'vivariumlaw09.CodeReads': WHATEVER THE INPUT: true; the input reads as it did. -/
def codeReadsSpec : ChangeSpec := { name := "codeReads", fn := fun _ => fun
  | [d] => { results := [.lit (.bool true)], args := [d] }
  | _ => none }
def codeReadsRow : OpenClaim := { program := "ytclndbiljhbbkaadoor", sum := "24cce49181812ff81179d89ee5ecab646ac0be66547c234e230fe881a1db47e8", func := "vivarium/vivariumlaw09.CodeReads", spec := "codeReads", named := ["vivarium/code.names", "internal/strconv.uint64pow10", "math/bits.deBruijn32tab", "math/bits.deBruijn64tab"], apart := false, laid := [("math/bits.deBruijn32tab", laid_math_bits_deBruijn32tab), ("math/bits.deBruijn64tab", laid_math_bits_deBruijn64tab), ("internal/strconv.uint64pow10", laid_internal_strconv_uint64pow10), ("vivarium/code.names", laid_vivarium_code_names)] }
def CodeReadsSaid : Prop := codeReadsRow.holds Tryd.pinned (OpenSpec.ofChange codeReadsSpec)

/-- ITS FALSE NEIGHBOUR: 'it returns false'. Refute it at one input. -/
def codeReadsWrong : ChangeSpec := { name := "codeReads", fn := fun _ => fun
  | [d] => { results := [.lit (.bool false)], args := [d] }
  | _ => none }
def CodeReadsWrongFalsely : Prop := codeReadsRow.holds Tryd.pinned (OpenSpec.ofChange codeReadsWrong)

/-- 'vivariumlaw09.CodeRound': WHATEVER THE INPUT: true; the input reads as it did. -/
def codeRoundSpec : ChangeSpec := { name := "codeRound", fn := fun _ => fun
  | [d1, d2] => { results := [.lit (.bool true)], args := [d1, d2] }
  | _ => none }
def codeRoundRow : OpenClaim := { program := "ytclndbiljhbbkaadoor", sum := "24cce49181812ff81179d89ee5ecab646ac0be66547c234e230fe881a1db47e8", func := "vivarium/vivariumlaw09.CodeRound", spec := "codeRound", named := ["vivarium/code.names", "internal/strconv.uint64pow10", "math/bits.deBruijn32tab", "math/bits.deBruijn64tab"], apart := false, laid := [("math/bits.deBruijn32tab", laid_math_bits_deBruijn32tab), ("math/bits.deBruijn64tab", laid_math_bits_deBruijn64tab), ("internal/strconv.uint64pow10", laid_internal_strconv_uint64pow10), ("vivarium/code.names", laid_vivarium_code_names)] }
def CodeRoundSaid : Prop := codeRoundRow.holds Tryd.pinned (OpenSpec.ofChange codeRoundSpec)

/-- ITS FALSE NEIGHBOUR: 'it returns false'. Refute it at one input. -/
def codeRoundWrong : ChangeSpec := { name := "codeRound", fn := fun _ => fun
  | [d1, d2] => { results := [.lit (.bool false)], args := [d1, d2] }
  | _ => none }
def CodeRoundWrongFalsely : Prop := codeRoundRow.holds Tryd.pinned (OpenSpec.ofChange codeRoundWrong)

/- THE SECOND FORM. 'bulk': how many values and letters a reading holds, each counted each time it is reached (what is shared counts as often as it is met; a slice's spare places count too). A statement '..UptoSaid' is the law's where the arguments, and the package variables that the reading takes, are together of bulk at most 1048576: NARROWER than '..Said'. Prove '..Said' where nothing that the law and all that it calls make is longer than what came in: it says more and counts as full. Else prove '..UptoSaid'. A law counts once. -/
mutual
def uptoBulk {H : Type} : DataW H → Nat
  | .lit (.string bytes) => bytes.length + 1
  | .lit _ => 1
  | .nil => 1
  | .ptr d => uptoBulk d + 1
  | .slice elems spare => uptoBulkAll elems + uptoBulkAll spare + 1
  | .agg parts => uptoBulkAll parts + 1
  | .iface _ d => uptoBulk d + 1
  | .map entries => uptoBulkEntries entries + 1
  | .held _ => 1
def uptoBulkAll {H : Type} : List (DataW H) → Nat
  | [] => 0
  | d :: r => uptoBulk d + uptoBulkAll r
def uptoBulkEntries {H : Type} : List (Lit × DataW H) → Nat
  | [] => 0
  | x :: r => uptoBulkEntry x + uptoBulkEntries r
def uptoBulkEntry {H : Type} : Lit × DataW H → Nat
  | (.string bytes, d) => bytes.length + uptoBulk d + 1
  | (_, d) => uptoBulk d + 1
 end
def uptoSmall : (H : Type) → List (DataW H) → Bool := fun _ ds => decide (uptoBulkAll ds ≤ 1048576)
def OpenSpec.upto (s : _root_.Go.ChangeSpec) : _root_.Go.OpenSpec := { _root_.Go.OpenSpec.ofChange s with cond := some uptoSmall }

/-- 'vivariumlaw09.CodePuts', WHERE WHAT IT READS IS OF BULK AT MOST 1048576: true; the input reads as it did. -/
def codePutsUptoRow : OpenClaim := { program := "ytclndbiljhbbkaadoor", sum := "24cce49181812ff81179d89ee5ecab646ac0be66547c234e230fe881a1db47e8", func := "vivarium/vivariumlaw09.CodePuts", spec := "codePuts", named := ["vivarium/code.names", "internal/strconv.uint64pow10", "math/bits.deBruijn32tab", "math/bits.deBruijn64tab"], apart := false, laid := [("math/bits.deBruijn32tab", laid_math_bits_deBruijn32tab), ("math/bits.deBruijn64tab", laid_math_bits_deBruijn64tab), ("internal/strconv.uint64pow10", laid_internal_strconv_uint64pow10), ("vivarium/code.names", laid_vivarium_code_names)], narrowed := true }
def CodePutsUptoSaid : Prop := codePutsUptoRow.holds Tryd.pinned (OpenSpec.upto codePutsSpec)

/-- 'vivariumlaw09.CodeOne', WHERE WHAT IT READS IS OF BULK AT MOST 1048576: true; the input reads as it did. -/
def codeOneUptoRow : OpenClaim := { program := "ytclndbiljhbbkaadoor", sum := "24cce49181812ff81179d89ee5ecab646ac0be66547c234e230fe881a1db47e8", func := "vivarium/vivariumlaw09.CodeOne", spec := "codeOne", named := ["vivarium/code.names", "internal/strconv.uint64pow10", "math/bits.deBruijn32tab", "math/bits.deBruijn64tab"], apart := false, laid := [("math/bits.deBruijn32tab", laid_math_bits_deBruijn32tab), ("math/bits.deBruijn64tab", laid_math_bits_deBruijn64tab), ("internal/strconv.uint64pow10", laid_internal_strconv_uint64pow10), ("vivarium/code.names", laid_vivarium_code_names)], narrowed := true }
def CodeOneUptoSaid : Prop := codeOneUptoRow.holds Tryd.pinned (OpenSpec.upto codeOneSpec)

/-- 'vivariumlaw09.CodeLeads', WHERE WHAT IT READS IS OF BULK AT MOST 1048576: true; the input reads as it did. -/
def codeLeadsUptoRow : OpenClaim := { program := "ytclndbiljhbbkaadoor", sum := "24cce49181812ff81179d89ee5ecab646ac0be66547c234e230fe881a1db47e8", func := "vivarium/vivariumlaw09.CodeLeads", spec := "codeLeads", named := ["vivarium/code.names", "internal/strconv.uint64pow10", "math/bits.deBruijn32tab", "math/bits.deBruijn64tab"], apart := false, laid := [("math/bits.deBruijn32tab", laid_math_bits_deBruijn32tab), ("math/bits.deBruijn64tab", laid_math_bits_deBruijn64tab), ("internal/strconv.uint64pow10", laid_internal_strconv_uint64pow10), ("vivarium/code.names", laid_vivarium_code_names)], narrowed := true }
def CodeLeadsUptoSaid : Prop := codeLeadsUptoRow.holds Tryd.pinned (OpenSpec.upto codeLeadsSpec)

/-- 'vivariumlaw09.CodeTexts', WHERE WHAT IT READS IS OF BULK AT MOST 1048576: true; the input reads as it did. -/
def codeTextsUptoRow : OpenClaim := { program := "ytclndbiljhbbkaadoor", sum := "24cce49181812ff81179d89ee5ecab646ac0be66547c234e230fe881a1db47e8", func := "vivarium/vivariumlaw09.CodeTexts", spec := "codeTexts", recurses := true, named := ["vivarium/code.names", "internal/strconv.uint64pow10", "math/bits.deBruijn32tab", "math/bits.deBruijn64tab"], apart := false, laid := [("math/bits.deBruijn32tab", laid_math_bits_deBruijn32tab), ("math/bits.deBruijn64tab", laid_math_bits_deBruijn64tab), ("internal/strconv.uint64pow10", laid_internal_strconv_uint64pow10), ("vivarium/code.names", laid_vivarium_code_names)], narrowed := true }
def CodeTextsUptoSaid : Prop := codeTextsUptoRow.holds Tryd.pinned (OpenSpec.upto codeTextsSpec)

/-- 'vivariumlaw09.CodeJoined', WHERE WHAT IT READS IS OF BULK AT MOST 1048576: true; the input reads as it did. -/
def codeJoinedUptoRow : OpenClaim := { program := "ytclndbiljhbbkaadoor", sum := "24cce49181812ff81179d89ee5ecab646ac0be66547c234e230fe881a1db47e8", func := "vivarium/vivariumlaw09.CodeJoined", spec := "codeJoined", named := ["vivarium/code.names", "internal/strconv.uint64pow10", "math/bits.deBruijn32tab", "math/bits.deBruijn64tab"], apart := false, laid := [("math/bits.deBruijn32tab", laid_math_bits_deBruijn32tab), ("math/bits.deBruijn64tab", laid_math_bits_deBruijn64tab), ("internal/strconv.uint64pow10", laid_internal_strconv_uint64pow10), ("vivarium/code.names", laid_vivarium_code_names)], narrowed := true }
def CodeJoinedUptoSaid : Prop := codeJoinedUptoRow.holds Tryd.pinned (OpenSpec.upto codeJoinedSpec)

/-- 'vivariumlaw09.CodeReads', WHERE WHAT IT READS IS OF BULK AT MOST 1048576: true; the input reads as it did. -/
def codeReadsUptoRow : OpenClaim := { program := "ytclndbiljhbbkaadoor", sum := "24cce49181812ff81179d89ee5ecab646ac0be66547c234e230fe881a1db47e8", func := "vivarium/vivariumlaw09.CodeReads", spec := "codeReads", named := ["vivarium/code.names", "internal/strconv.uint64pow10", "math/bits.deBruijn32tab", "math/bits.deBruijn64tab"], apart := false, laid := [("math/bits.deBruijn32tab", laid_math_bits_deBruijn32tab), ("math/bits.deBruijn64tab", laid_math_bits_deBruijn64tab), ("internal/strconv.uint64pow10", laid_internal_strconv_uint64pow10), ("vivarium/code.names", laid_vivarium_code_names)], narrowed := true }
def CodeReadsUptoSaid : Prop := codeReadsUptoRow.holds Tryd.pinned (OpenSpec.upto codeReadsSpec)

/-- 'vivariumlaw09.CodeRound', WHERE WHAT IT READS IS OF BULK AT MOST 1048576: true; the input reads as it did. -/
def codeRoundUptoRow : OpenClaim := { program := "ytclndbiljhbbkaadoor", sum := "24cce49181812ff81179d89ee5ecab646ac0be66547c234e230fe881a1db47e8", func := "vivarium/vivariumlaw09.CodeRound", spec := "codeRound", named := ["vivarium/code.names", "internal/strconv.uint64pow10", "math/bits.deBruijn32tab", "math/bits.deBruijn64tab"], apart := false, laid := [("math/bits.deBruijn32tab", laid_math_bits_deBruijn32tab), ("math/bits.deBruijn64tab", laid_math_bits_deBruijn64tab), ("internal/strconv.uint64pow10", laid_internal_strconv_uint64pow10), ("vivarium/code.names", laid_vivarium_code_names)], narrowed := true }
def CodeRoundUptoSaid : Prop := codeRoundUptoRow.holds Tryd.pinned (OpenSpec.upto codeRoundSpec)

end Rows
end Go.Proofs.YtclndbiljhbbkaaDoor

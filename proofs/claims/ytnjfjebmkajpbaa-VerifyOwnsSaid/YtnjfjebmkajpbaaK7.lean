/- Contracts: the reference's plain, whole. -/
import Derived.Test.YtnjfjebmkajpbaaK6
namespace Go.Proofs.Ytnjfjebmkajpbaa
open Go.ChangeShapes Go.WideShapes Go.ChangeAt Go.RowKit
set_option linter.unusedVariables false
set_option linter.unusedSimpArgs false

theorem rplain_any {w0 w : World} {F : Nat → Nat → Value} (n5 c c5 : Nat) (p q : Option Addr) (sel : ByteArray) (args temps prim fields : Int) (ts : List LitT) (hl : IsLits w0 p ts.length F ts) (hB : Below w0.heap.size w0 w) (hc1 : ts.length ≤ c) (hc2 : c ≤ 9223372036854775807) (hc3 : n5 ≤ c5) (hc4 : c5 ≤ 9223372036854775807) (hs : sel.size ≤ 9223372036854775807) {C : Nat → Ins} (hC : IsCode w0 q n5 C) :
    Calls Try.prog 25 #[.agg #[.string sel, .int .i64 args, .int .i64 temps, .int .i64 prim, .slice p ts.length c, .slice q n5 c5], .int .i64 fields] w (fun e w' => ((e = .returned (.bool true) ∧ PlainOK sel args temps prim fields ts n5 C) ∨ (e = .returned (.bool false) ∧ ¬ PlainOK sel args temps prim fields ts n5 C)) ∧ Below w.heap.size w w') := by
  have no : ∀ h : PlainOK sel args temps prim fields ts n5 C, (0 ≤ fields ∧ fields ≤ 8) ∧ (1 ≤ (sel.size : Int) ∧ (sel.size : Int) ≤ 60) ∧ (0 ≤ args ∧ args ≤ 4) ∧ (args ≤ temps ∧ temps ≤ 24) ∧ (0 ≤ prim ∧ prim ≤ 255) ∧ ts.length ≤ 60 ∧ 1 ≤ (n5 : Int) ∧ (n5 : Int) ≤ 400 := fun h => by
    have h1 := h.1
    have h2 := h.2.2.1
    have h3 := h.2.2.2.1
    unfold headB inB at h1
    unfold inB at h3
    simp only [Bool.and_eq_true, decide_eq_true_eq] at h1 h3
    omega
  by_cases x0 : fields < (0 : Int)
  · exact (plain_bad0 w n5 c c5 p q sel args temps prim fields ts hc1 hc2 hc3 hc4 hs x0).mono (fun e w' ⟨y, z⟩ => ⟨.inr ⟨y, fun h => by have := no h; omega⟩, z⟩)
  by_cases x1 : (8 : Int) < fields
  · exact (plain_bad1 w n5 c c5 p q sel args temps prim fields ts hc1 hc2 hc3 hc4 hs x0 x1).mono (fun e w' ⟨y, z⟩ => ⟨.inr ⟨y, fun h => by have := no h; omega⟩, z⟩)
  by_cases x2 : (sel.size : Int) < (1 : Int)
  · exact (plain_bad2 w n5 c c5 p q sel args temps prim fields ts hc1 hc2 hc3 hc4 hs x0 x1 x2).mono (fun e w' ⟨y, z⟩ => ⟨.inr ⟨y, fun h => by have := no h; omega⟩, z⟩)
  by_cases x3 : (60 : Int) < (sel.size : Int)
  · exact (plain_bad3 w n5 c c5 p q sel args temps prim fields ts hc1 hc2 hc3 hc4 hs x0 x1 x2 x3).mono (fun e w' ⟨y, z⟩ => ⟨.inr ⟨y, fun h => by have := no h; omega⟩, z⟩)
  by_cases x4 : args < (0 : Int)
  · exact (plain_bad4 w n5 c c5 p q sel args temps prim fields ts hc1 hc2 hc3 hc4 hs x0 x1 x2 x3 x4).mono (fun e w' ⟨y, z⟩ => ⟨.inr ⟨y, fun h => by have := no h; omega⟩, z⟩)
  by_cases x5 : (4 : Int) < args
  · exact (plain_bad5 w n5 c c5 p q sel args temps prim fields ts hc1 hc2 hc3 hc4 hs x0 x1 x2 x3 x4 x5).mono (fun e w' ⟨y, z⟩ => ⟨.inr ⟨y, fun h => by have := no h; omega⟩, z⟩)
  by_cases x6 : temps < args
  · exact (plain_bad6 w n5 c c5 p q sel args temps prim fields ts hc1 hc2 hc3 hc4 hs x0 x1 x2 x3 x4 x5 x6).mono (fun e w' ⟨y, z⟩ => ⟨.inr ⟨y, fun h => by have := no h; omega⟩, z⟩)
  by_cases x7 : (24 : Int) < temps
  · exact (plain_bad7 w n5 c c5 p q sel args temps prim fields ts hc1 hc2 hc3 hc4 hs x0 x1 x2 x3 x4 x5 x6 x7).mono (fun e w' ⟨y, z⟩ => ⟨.inr ⟨y, fun h => by have := no h; omega⟩, z⟩)
  by_cases x8 : prim < (0 : Int)
  · exact (plain_bad8 w n5 c c5 p q sel args temps prim fields ts hc1 hc2 hc3 hc4 hs x0 x1 x2 x3 x4 x5 x6 x7 x8).mono (fun e w' ⟨y, z⟩ => ⟨.inr ⟨y, fun h => by have := no h; omega⟩, z⟩)
  by_cases x9 : (255 : Int) < prim
  · exact (plain_bad9 w n5 c c5 p q sel args temps prim fields ts hc1 hc2 hc3 hc4 hs x0 x1 x2 x3 x4 x5 x6 x7 x8 x9).mono (fun e w' ⟨y, z⟩ => ⟨.inr ⟨y, fun h => by have := no h; omega⟩, z⟩)
  by_cases x10 : (60 : Int) < (ts.length : Int)
  · exact (plain_bad10 w n5 c c5 p q sel args temps prim fields ts hc1 hc2 hc3 hc4 hs x0 x1 x2 x3 x4 x5 x6 x7 x8 x9 x10).mono (fun e w' ⟨y, z⟩ => ⟨.inr ⟨y, fun h => by have := no h; omega⟩, z⟩)
  by_cases x11 : (n5 : Int) < (1 : Int)
  · exact (plain_bad11 w n5 c c5 p q sel args temps prim fields ts hc1 hc2 hc3 hc4 hs x0 x1 x2 x3 x4 x5 x6 x7 x8 x9 x10 x11).mono (fun e w' ⟨y, z⟩ => ⟨.inr ⟨y, fun h => by have := no h; omega⟩, z⟩)
  by_cases x12 : (400 : Int) < (n5 : Int)
  · exact (plain_bad12 w n5 c c5 p q sel args temps prim fields ts hc1 hc2 hc3 hc4 hs x0 x1 x2 x3 x4 x5 x6 x7 x8 x9 x10 x11 x12).mono (fun e w' ⟨y, z⟩ => ⟨.inr ⟨y, fun h => by have := no h; omega⟩, z⟩)
  exact plain_good n5 c c5 p q sel args temps prim fields ts hl hB hc1 hc2 hc3 hc4 hs hC x0 x1 x2 x3 x4 x5 x6 x7 x8 x9 x10 x11 x12
end Go.Proofs.Ytnjfjebmkajpbaa

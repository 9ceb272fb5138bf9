/- Chapter 11: what code and literals hold in memory. -/
import Derived.Test.YtnojndgmgkgnpaaChecked
import Derived.Test.YtnojndgmgkgnpaaMem
import Derived.Test.YtnojndgmgkgnpaaPlain
import Derived.BigGuard
import Derived.Deep.Draws
import Derived.LoopN
import Derived.WalkMore
import Derived.Deep.DeepCutAuto
import Derived.Deep.CutRange
namespace Go.Proofs.Ytnojndgmgkgnpaa
open Go.ChangeShapes Go.WideShapes Go.ChangeAt Go.RowKit Go.Deep Go.Joins
set_option linter.unusedVariables false
set_option linter.unusedSimpArgs false
def insCell (i : Ins) : Nat → Value
 | 0 => .int .i64 i.op
 | 1 => .int .i64 i.a
 | _ => .int .i64 i.b
/-- a slice that reads as instructions -/
def IsCode (w : World) (p : Option Addr) (n : Nat) (C : Nat → Ins) : Prop := Row w p n 3 (fun i => insCell (C i))
theorem IsCode.at_ {w0 w : World} {p : Option Addr} {n : Nat} {C : Nat → Ins} (h : IsCode w0 p n C) (hB : Below w0.heap.size w0 w) {k : Nat} (hk : k < n) :
  ∃ b off, p = some ⟨b, off, none⟩ ∧ b < w0.heap.size ∧ w.cell? ⟨b, off + k * 3, none⟩ = some (.int .i64 (C k).op) ∧ w.cell? ⟨b, off + k * 3 + 1, none⟩ = some (.int .i64 (C k).a) ∧ w.cell? ⟨b, off + k * 3 + 2, none⟩ = some (.int .i64 (C k).b) := by
 obtain ⟨b, off, e, hlt, hc⟩ := h (by omega)
 exact ⟨b, off, e, hlt, (hB.cell (p := ⟨b, off + k * 3 + 0, none⟩) hlt).trans (hc k hk 0 (by omega)), (hB.cell (p := ⟨b, off + k * 3 + 1, none⟩) hlt).trans (hc k hk 1 (by omega)), (hB.cell (p := ⟨b, off + k * 3 + 2, none⟩) hlt).trans (hc k hk 2 (by omega))⟩
inductive LitT where
 | node (kind : Int) (text : ByteArray) (num : Int) (kids : List LitT)
/-- four cells that read as a literal -/
inductive IsLit (w : World) : LitT → (Nat → Value) → Prop
 | node (k : Int) (s : ByteArray) (n : Int) (ks : List LitT) (p : Option Addr) (c : Nat) (F : Nat → Nat → Value) (f : Nat → Value) :
   f 0 = .int .i64 k → f 1 = .string s → f 2 = .int .i64 n → f 3 = .slice p ks.length c → ks.length ≤ c → c ≤ 9223372036854775807 → s.size ≤ 9223372036854775807 →
   Row w p ks.length 4 F → (∀ (i : Nat) (h : i < ks.length), IsLit w ks[i] (F i)) → IsLit w (.node k s n ks) f
theorem IsLit.kept {w w' : World} (hb : Below w.heap.size w w') {t : LitT} {f : Nat → Value} (h : IsLit w t f) : IsLit w' t f := by
 induction h with
 | node k s n ks p c F f h0 h1 h2 h3 h4 h5 h6 h7 h8 ih => exact .node k s n ks p c F f h0 h1 h2 h3 h4 h5 h6 (h7.below hb) ih
mutual
def okL : Int → LitT → Bool
 | deep, .node k s n ks =>
  if k == 1 then s.size == 0 && ks.length == 0 && decide (-1152921504606846976 ≤ n ∧ n ≤ 1152921504606846976)
  else if k == 2 then n == 0 && ks.length == 0 && decide (s.size ≤ 250)
  else if k == 3 then n == 0 && ks.length == 0 && decide (1 ≤ s.size ∧ s.size ≤ 60)
  else if k == 4 then n == 0 && s.size == 0 && decide (0 < deep) && decide (ks.length ≤ 250) && okLs (deep - 1) ks
  else false
def okLs : Int → List LitT → Bool
 | _, [] => true
 | deep, t :: ts => okL deep t && okLs deep ts
end
/-- a slice that reads as literals -/
def IsLits (w : World) (p : Option Addr) (n : Nat) (F : Nat → Nat → Value) (ts : List LitT) : Prop := ts.length = n ∧ Row w p n 4 F ∧ ∀ (i : Nat) (h : i < ts.length), IsLit w ts[i] (F i)
end Go.Proofs.Ytnojndgmgkgnpaa

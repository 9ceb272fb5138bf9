/- What the statements' arguments hold: code. -/
import Derived.Test.YtnjfjebmkajpbaaN2
import Derived.Test.YtnjfjebmkajpbaaRows
import Derived.ProofKit
import Derived.OpenShut
namespace Go.Proofs.Ytnjfjebmkajpbaa
open Go.ChangeShapes Go.WideShapes Go.ChangeAt Go.RowKit Go.Deep Go.Joins
set_option linter.unusedVariables false
set_option linter.unusedSimpArgs false

def insOf (F : Nat → Nat → Value) (i : Nat) : Ins := ⟨intOf (F i 0), intOf (F i 1), intOf (F i 2)⟩
section
variable {H : Type} {enc : TypeId × Value → H} {w : World} {base b0 : Nat} {spare : Nat → Bool} {held : Bool} {r : Go.Reach}
theorem row_change {A : Option Addr} {n size : Nat} {f g : Nat → Nat → Value} (h : Row w A n size f) (e : ∀ i, i < n → ∀ j, j < size → f i j = g i j) : Row w A n size g := fun hn => by
  obtain ⟨b, off, e1, hlt, hc⟩ := h hn
  exact ⟨b, off, e1, hlt, fun i hi j hj => (hc i hi j hj).trans (by rw [e i hi j hj])⟩
/-- a slice of instructions that was handed in -/
structure RawC (w : World) (A : Option Addr) (n c : Nat) (C : Nat → Ins) : Prop where
  row : IsCode w A n C
  le : n ≤ c
  cap : c ≤ 9223372036854775807
theorem open_codes {fuel : Nat} {cs : List Value} {x : DataW H × List MemPlace} (h : DataW.trod enc Try.prog w base spare held fuel 23 cs = some x) :
    ∃ A n c C, cs = [.slice A n c] ∧ RawC w A n c C := by
  obtain ⟨A, n, c, F, e, hl, hm, hR, hf⟩ := open_row Try.underlying23 Try.underlying37 (by kernel_rfl) (by kernel_rfl) (by decide) h
  refine ⟨A, n, c, insOf F, e, row_change hR ?_, hl, hm⟩
  intro i hi j hj
  obtain ⟨_, _, u0⟩ := hf i hi 0 _ rfl
  obtain ⟨_, _, u1⟩ := hf i hi 1 _ rfl
  obtain ⟨_, _, u2⟩ := hf i hi 2 _ rfl
  match j, hj with
  | 0, _ => exact (int_field Try.underlying3 u0).1
  | 1, _ => exact (int_field Try.underlying3 u1).1
  | 2, _ => exact (int_field Try.underlying3 u2).1
theorem open_code {v : Value} {d : DataW H} {p : List MemPlace} (hv : Value.okWide Try.prog w r b0 23 v) (h : DataW.Trod enc Try.prog w base spare held 23 v d p) :
    ∃ A n c C, v = .slice A n c ∧ RawC w A n c C := by
  obtain ⟨a, n, c, rfl⟩ := okWide_slice Try.underlying23 hv
  obtain ⟨fuel, hf⟩ := h
  obtain ⟨A, n', c', C, e, hR⟩ := open_codes hf
  simp [Value.cells] at e
  obtain ⟨rfl, rfl, rfl⟩ := e
  exact ⟨_, _, _, C, rfl, hR⟩
end
end Go.Proofs.Ytnjfjebmkajpbaa

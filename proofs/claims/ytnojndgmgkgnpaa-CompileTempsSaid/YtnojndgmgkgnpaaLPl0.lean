/- Chapter 10, plain: a method, or a refusal. -/
import Derived.Test.YtnojndgmgkgnpaaCPlain
namespace Go.Proofs.Ytnojndgmgkgnpaa
set_option linter.unusedVariables false
set_option linter.unusedSimpArgs false
/-- a method, or a refusal: nothing else is told -/
theorem readC_cases (f : Nat) (x : NodT) (fields : List ByteArray) (value : Bool) :
  (∃ nm e, e ≠ 0 ∧ readC f x fields value = (noMet, nm, e)) ∨
  ((wholeP (valP f) x value (startC fields)).err = 0 ∧ (wholeP (valP f) x value (startC fields)).lits.length ≤ 60 ∧ (wholeP (valP f) x value (startC fields)).code.length ≤ 400 ∧ (wholeP (valP f) x value (startC fields)).code.all mayB = true ∧
   readC f x fields value = (⟨x.text, x.names.length, (wholeP (valP f) x value (startC fields)).temps, x.num, (wholeP (valP f) x value (startC fields)).lits, (wholeP (valP f) x value (startC fields)).code⟩, eB, 0)) := by
 unfold readC
 split
 ·exact .inl ⟨eB, 1, by decide, rfl⟩
 ·dsimp only
  split
  ·rename_i h
   exact .inl ⟨_, _, h, rfl⟩
  ·rename_i h0
   split
   ·exact .inl ⟨eB, 18, by decide, rfl⟩
   ·split
    ·exact .inl ⟨eB, 12, by decide, rfl⟩
    ·split
     ·rename_i h1 h2 h3
      exact .inr ⟨by simpa using h0, by omega, by omega, h3, rfl⟩
     ·exact .inl ⟨eB, 12, by decide, rfl⟩
/-- of a refusal nothing is told -/
theorem readC_no {f : Nat} {x : NodT} {fields : List ByteArray} {value : Bool} {m : MetT} {nm : ByteArray} {e : Int} (h : readC f x fields value = (m, nm, e)) (he : e ≠ 0) : m = noMet := by
 rcases readC_cases f x fields value with ⟨nm', e', _, h2⟩ | ⟨_, _, _, _, h2⟩
 ·rw [h] at h2; exact congrArg Prod.fst h2
 ·rw [h] at h2; exact absurd (congrArg (fun r => r.2.2) h2) he
end Go.Proofs.Ytnojndgmgkgnpaa

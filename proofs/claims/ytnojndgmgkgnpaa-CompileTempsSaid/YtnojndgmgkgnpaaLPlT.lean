/- Chapter 10, plain: a method's temporaries. -/
import Derived.Test.YtnojndgmgkgnpaaCKn
import Derived.Test.YtnojndgmgkgnpaaLPl0
namespace Go.Proofs.Ytnojndgmgkgnpaa
set_option linter.unusedVariables false
set_option linter.unusedSimpArgs false
theorem readC_temps {f : Nat} {x : NodT} {fields : List ByteArray} {value : Bool} {m : MetT} {nm : ByteArray} (h : readC f x fields value = (m, nm, 0)) (hf : x.size ≤ f) (hk : okKs x.kids) : m.temps = knN x ∧ m.temps ≤ 24 ∧ m.args = x.names.length ∧ m.sel = x.text ∧ m.prim = x.num := by
 rcases readC_cases f x fields value with ⟨nm', e', h1, h2⟩ | ⟨h1, h2, h3, h4, h5⟩
 ·rw [h] at h2; exact absurd (congrArg (fun r => r.2.2) h2).symm h1
 ·rw [h] at h5
  have hm := congrArg Prod.fst h5
  dsimp only at hm
  rw [hm]
  have hw := wholeP_kn f x value (startC fields) hf hk
  have e1 := hw.eq h1
  have e2 := hw.top (Nat.zero_le _)
  exact ⟨by rw [e1]; show 0 + knN x = knN x; omega, e2, rfl, rfl, rfl⟩
theorem read7_ok (s : ByteArray) (m : Bool) : okKs (read7 s m).1.kids := by
 unfold read7
 split
 ·exact trivial
 ·split
  ·exact trivial
  ·exact readT7_ok _ m
end Go.Proofs.Ytnojndgmgkgnpaa

/- Chapter 11: the document's examples. -/
import Derived.Test.YtnjfjebmkajpbaaM2
namespace Go.Proofs.Ytnjfjebmkajpbaa
open Go.ChangeShapes Go.WideShapes Go.ChangeAt Go.RowKit
set_option linter.unusedVariables false
set_option linter.unusedSimpArgs false
def codeOf (l : List Ins) : Nat → Ins := fun k => l.getD k ⟨0, 0, 0⟩
def exA : List Ins := [⟨2, 0, 0⟩, ⟨20, 0, 0⟩]
def exB : List Ins := [⟨12, 0, 0⟩, ⟨20, 0, 0⟩]
def exC : List Ins := [⟨6, 0, 0⟩, ⟨20, 0, 0⟩]
def exD : List Ins := [⟨18, 0, 0⟩, ⟨16, 4, 0⟩, ⟨2, 0, 0⟩, ⟨19, 0, 0⟩, ⟨20, 0, 0⟩]
def nX : ByteArray := ⟨#[120]⟩
def listF (l : List Int) : Nat → Int := fun k => l.getD k 0
theorem lt2 {k : Nat} (h : k < 2) : k = 0 ∨ k = 1 := by omega
theorem lt5 {k : Nat} (h : k < 5) : k = 0 ∨ k = 1 ∨ k = 2 ∨ k = 3 ∨ k = 4 := by omega
theorem may_two (l : List Ins) (h0 : mayB (codeOf l 0) = true) (h1 : mayB (codeOf l 1) = true) : AllMay 2 (codeOf l) := fun k hk => by
  rcases lt2 hk with rfl | rfl
  · exact h0
  · exact h1
theorem plain_two (l : List Ins) (h0 : mayB (codeOf l 0) = true) (h1 : mayB (codeOf l 1) = true) (g0 : opOK [] 0 0 (codeOf l 0) = true) (g1 : opOK [] 0 0 (codeOf l 1) = true) : PlainOK nX 0 0 0 0 [] 2 (codeOf l) :=
  ⟨by decide, by rfl, by simp, by decide, fun k hk => by
    rcases lt2 hk with rfl | rfl
    · exact ⟨h0, g0⟩
    · exact ⟨h1, g1⟩⟩
theorem goodA : GoodM nX 0 0 0 0 [] 2 (codeOf exA) := by
  refine ⟨plain_two _ (by decide) (by decide) (by decide) (by decide), by decide, goodD (F := listF [0, 1]) (may_two _ (by decide) (by decide)) ⟨fun p hp _ => ?_, fun p hp => ?_, fun p hp hr => ?_⟩ (fun p hp _ => ?_)⟩
  · rcases lt2 hp with rfl | rfl
    · exact Reach.start 0 (by decide) (by decide)
    · exact Reach.step 0 1 0 (Reach.start 0 (by decide) (by decide)) (by decide) (by decide) (by decide)
  · rcases lt2 hp with rfl | rfl <;> decide
  · rcases lt2 hp with rfl | rfl
    · rfl
    · exact absurd hr (by decide)
  · rcases lt2 hp with rfl | rfl
    · exact ⟨by decide, by decide⟩
    · exact ⟨by decide, by decide⟩
theorem badB : ¬ GoodM nX 0 0 0 0 [] 2 (codeOf exB) := fun h => h.2.2 (.inl ⟨0, 0, Reach.start 0 (by decide) (by decide), .inl (by decide)⟩)
theorem badC : ¬ GoodM nX 0 0 0 0 [] 2 (codeOf exC) := fun h => by
  have := (h.1.2.2.2.2 0 (by decide)).2
  revert this
  decide
theorem mayD : AllMay 5 (codeOf exD) := fun k hk => by
  rcases lt5 hk with rfl | rfl | rfl | rfl | rfl <;> decide
theorem soundDD : SoundD 5 (codeOf exD) (listF [0, 1, 0, 1, 1]) := by
  refine ⟨fun p hp _ => ?_, fun p hp => ?_, fun p hp hr => ?_⟩
  · rcases lt5 hp with rfl | rfl | rfl | rfl | rfl
    · exact Reach.start 0 (by decide) (by decide)
    · exact Reach.step 0 1 0 (Reach.start 0 (by decide) (by decide)) (by decide) (by decide) (by decide)
    · exact Reach.start 2 (by decide) (by decide)
    · exact Reach.step 2 3 0 (Reach.start 2 (by decide) (by decide)) (by decide) (by decide) (by decide)
    · exact Reach.step 1 4 1 (Reach.step 0 1 0 (Reach.start 0 (by decide) (by decide)) (by decide) (by decide) (by decide)) (by decide) (by decide) (by decide)
  · rcases lt5 hp with rfl | rfl | rfl | rfl | rfl <;> decide
  · rcases lt5 hp with rfl | rfl | rfl | rfl | rfl <;> first | rfl | exact absurd hr (by decide)
theorem closedDD : ClosedD 5 (codeOf exD) (listF [0, 1, 0, 1, 1]) := fun p hp _ => by
  rcases lt5 hp with rfl | rfl | rfl | rfl | rfl <;> exact ⟨by decide, by decide⟩
theorem goodDD : GoodM nX 0 0 0 0 [] 5 (codeOf exD) := by
  refine ⟨⟨by decide, by rfl, by simp, by decide, fun k hk => ?_⟩, by decide, goodD mayD soundDD closedDD⟩
  rcases lt5 hk with rfl | rfl | rfl | rfl | rfl <;> exact ⟨by decide, by decide⟩
end Go.Proofs.Ytnjfjebmkajpbaa

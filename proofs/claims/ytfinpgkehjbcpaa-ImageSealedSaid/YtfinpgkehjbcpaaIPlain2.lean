/- Chapter 05, plain: a memory as bytes. -/
import Derived.Test.YtfinpgkehjbcpaaIPlain
import Derived.Test.YtfinpgkehjbcpaaHMaps
import Derived.Test.YtfinpgkehjbcpaaWWalks
namespace Go.Proofs.Ytfinpgkehjbcpaa
set_option linter.unusedVariables false
set_option linter.unusedSimpArgs false
/-- a word as a count -/
def codeW (L : List Ob) (x : Int) : Nat := if isSmallV x then 3 + 2 * foldV (x / 2) else match plc L x with | some k => 4 + 2 * k | none => (x / 2).toNat
def okI (x : Int) : Bool := decide (-2305843009213693952 ≤ x ∧ x < 2305843009213693952)
def numB (x : Int) : List Int := if okI x then cntV (foldV x) else []
def fldB (L : List Ob) (f x : Int) : List Int := if f = 1 then numB x else if f = 2 then [x] else cntV (codeW L x)
def objB (L : List Ob) (o : Ob) : List Int := cntV o.fmt.toNat ++ cntV o.F.length ++ cntV (foldV o.hash) ++ cntV (codeW L o.cls) ++ o.F.flatMap (fldB L o.fmt)
def oddF (f x : Int) : Bool := f == 1 && !okI x
def oddO (o : Ob) : Bool := o.F.any (oddF o.fmt)
/-- classes and fields are what may be there -/
structure Snd (m : Hp) : Prop where
  cls : ∀ o, o ∈ m.L → o.cls = 0 ∨ isV m.L o.cls = true
  wrd : ∀ o, o ∈ m.L → o.fmt = 0 → ∀ x, x ∈ o.F → mayV m.L x = true
  byt : ∀ o, o ∈ m.L → o.fmt = 2 → ∀ x, x ∈ o.F → 0 ≤ x ∧ x ≤ 255
def bodyB (m : Hp) (l : List Int) : List Int := [86, 73, 86, 49] ++ cntV m.made ++ cntV m.L.length ++ m.L.flatMap (objB m.L) ++ cntV l.length ++ l.flatMap (fun x => cntV (codeW m.L x))
/-- a memory, and roots, written -/
def writeV (m : Hp) (l : List Int) : List Int × Int := if l.length ≤ 4000 ∧ (∀ x, x ∈ l → mayV m.L x = true) ∧ (∀ o, o ∈ m.L → oddO o = false) then (sealV (bodyB m l), 0) else ([], 1)
theorem ptr_ge (L : List Ob) (i : Nat) : 6 ≤ ptr L i := by unfold ptr adr; omega
theorem ptr_even (L : List Ob) (i : Nat) : ptr L i % 2 = 0 := by unfold ptr; omega
theorem small_odd {x : Int} (h : isSmallV x = true) : x % 2 = 1 ∧ -2147483647 ≤ x ∧ x ≤ 2147483647 := by
  unfold isSmallV at h
  have := of_decide_eq_true h
  omega
theorem plc_even {L : List Ob} {x : Int} {i : Nat} (h : plc L x = some i) : x % 2 = 0 ∧ 6 ≤ x := by
  obtain ⟨_, rfl⟩ := plc_some h
  exact ⟨ptr_even L i, ptr_ge L i⟩
theorem isV_may {L : List Ob} {x : Int} (h : isV L x = true) : mayV L x = true := by unfold mayV; rw [h]; simp
theorem zero_may (L : List Ob) : mayV L 0 = true := rfl
/-- what a word that may stand is -/
theorem may_cases {L : List Ob} {x : Int} (h : mayV L x = true) : isSmallV x = true ∨ (isSmallV x = false ∧ (∃ k, k < L.length ∧ plc L x = some k ∧ x = ptr L k)) ∨ (isSmallV x = false ∧ plc L x = none ∧ (x = 0 ∨ x = 2 ∨ x = 4)) := by
  cases hs : isSmallV x
  · right
    cases hp : plc L x with
    | some k =>
      obtain ⟨h1, h2⟩ := plc_some hp
      exact .inl ⟨rfl, k, h1, rfl, h2.symm⟩
    | none =>
      refine .inr ⟨rfl, rfl, ?_⟩
      unfold mayV isV at h
      rw [hs, hp] at h
      simp at h
      omega
  · exact .inl rfl
theorem codeW_small {L : List Ob} {x : Int} (h : isSmallV x = true) : codeW L x = 3 + 2 * foldV (x / 2) := by unfold codeW; rw [if_pos h]
theorem codeW_ptr {L : List Ob} {x : Int} {k : Nat} (h : isSmallV x = false) (hp : plc L x = some k) : codeW L x = 4 + 2 * k := by unfold codeW; rw [h, hp]; rfl
theorem codeW_low {L : List Ob} {x : Int} (h : isSmallV x = false) (hp : plc L x = none) : codeW L x = (x / 2).toNat := by unfold codeW; rw [h, hp]; rfl
theorem fold_le {n : Int} {b : Nat} (h : -(b : Int) ≤ n ∧ n ≤ b) : foldV n ≤ 2 * b := by unfold foldV; split <;> omega
theorem codeW_le {L : List Ob} {x : Int} (hL : L.length ≤ 1000000) (h : mayV L x = true) : codeW L x ≤ 5000000000 := by
  rcases may_cases h with hs | ⟨hs, k, hk, hp, _⟩ | ⟨hs, hp, hx⟩
  · rw [codeW_small hs]
    have h1 := small_odd hs
    have := fold_le (n := x / 2) (b := 1073741824) ⟨by omega, by omega⟩
    omega
  · rw [codeW_ptr hs hp]; omega
  · rw [codeW_low hs hp]; omega
end Go.Proofs.Ytfinpgkehjbcpaa

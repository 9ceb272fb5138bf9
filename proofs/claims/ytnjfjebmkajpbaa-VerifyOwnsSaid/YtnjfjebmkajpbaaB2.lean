/- Chapter 11: literals: what they hold, how high they are. -/
import Derived.Test.YtnjfjebmkajpbaaL1
namespace Go.Proofs.Ytnjfjebmkajpbaa
open Go.ChangeShapes Go.WideShapes Go.ChangeAt Go.RowKit
set_option linter.unusedVariables false
set_option linter.unusedSimpArgs false
def LitT.kind : LitT → Int | .node k _ _ _ => k
def LitT.text : LitT → ByteArray | .node _ s _ _ => s
def LitT.num : LitT → Int | .node _ _ n _ => n
def LitT.kids : LitT → List LitT | .node _ _ _ ks => ks
theorem IsLit.cells {w : World} {t : LitT} {f : Nat → Value} (h : IsLit w t f) : ∃ p c F, f 0 = .int .i64 t.kind ∧ f 1 = .string t.text ∧ f 2 = .int .i64 t.num ∧ f 3 = .slice p t.kids.length c ∧ t.kids.length ≤ c ∧ c ≤ 9223372036854775807 ∧ t.text.size ≤ 9223372036854775807 ∧ Row w p t.kids.length 4 F ∧ ∀ (i : Nat) (h : i < t.kids.length), IsLit w t.kids[i] (F i) := by
  cases h with
  | node k s n ks p c F f h0 h1 h2 h3 h4 h5 h6 h7 h8 => exact ⟨p, c, F, h0, h1, h2, h3, h4, h5, h6, h7, h8⟩
mutual
def hgt : LitT → Nat
  | .node _ _ _ ks => hgts ks + 1
def hgts : List LitT → Nat
  | [] => 0
  | t :: ts => max (hgt t) (hgts ts)
end
theorem hgts_mem : ∀ (ts : List LitT) (i : Nat) (h : i < ts.length), hgt ts[i] ≤ hgts ts
  | [], i, h => by simp at h
  | t :: ts, 0, h => by simp [hgts]; omega
  | t :: ts, i + 1, h => by
    have := hgts_mem ts i (by simpa using h)
    simp only [List.getElem_cons_succ, hgts]; omega
theorem hgts_le : ∀ (ts : List LitT) (m : Nat), (∀ (i : Nat) (h : i < ts.length), hgt ts[i] ≤ m) → hgts ts ≤ m
  | [], m, h => by simp [hgts]
  | t :: ts, m, h => by
    have h1 := h 0 (by simp)
    have h2 := hgts_le ts m (fun i hi => by have := h (i + 1) (by simpa using hi); simpa using this)
    simp only [hgts]
    simp at h1
    omega
theorem kid_hgt (t : LitT) (i : Nat) (h : i < t.kids.length) : hgt t.kids[i] + 1 ≤ hgt t := by
  cases t with
  | node k s n ks =>
    have := hgts_mem ks i h
    show hgt ks[i] + 1 ≤ hgts ks + 1
    omega
def inB (n lo hi : Int) : Bool := decide (lo ≤ n) && decide (n ≤ hi)
theorem okL_one {deep : Int} {t : LitT} (h : t.kind = 1) : okL deep t = (t.text.size == 0 && t.kids.length == 0 && inB t.num (-1152921504606846976) 1152921504606846976) := by
  cases t with
  | node k s n ks => simp only [LitT.kind] at h; subst h; simp [okL, inB, LitT.text, LitT.kids, LitT.num, Bool.decide_and]; rfl
theorem okL_two {deep : Int} {t : LitT} (h : t.kind = 2) : okL deep t = (t.num == 0 && t.kids.length == 0 && decide (t.text.size ≤ 250)) := by
  cases t with
  | node k s n ks => simp only [LitT.kind] at h; subst h; simp [okL, LitT.text, LitT.kids, LitT.num]; rfl
theorem okL_three {deep : Int} {t : LitT} (h : t.kind = 3) : okL deep t = (t.num == 0 && t.kids.length == 0 && inB (t.text.size : Int) 1 60) := by
  cases t with
  | node k s n ks =>
    simp only [LitT.kind] at h; subst h
    have e : inB (s.size : Int) 1 60 = decide (1 ≤ s.size ∧ s.size ≤ 60) := by
      unfold inB; rw [Bool.decide_and]; congr 1 <;> rw [decide_eq_decide] <;> omega
    simp [okL, LitT.text, LitT.kids, LitT.num, e]
theorem okL_four {deep : Int} {t : LitT} (h : t.kind = 4) : okL deep t = (t.num == 0 && t.text.size == 0 && decide (0 < deep) && decide (t.kids.length ≤ 250) && t.kids.all (okL (deep - 1))) := by
  cases t with
  | node k s n ks => simp only [LitT.kind] at h; subst h; simp [okL, okLs_all, LitT.text, LitT.kids, LitT.num]; rfl
theorem okL_odd {deep : Int} {t : LitT} (h1 : t.kind ≠ 1) (h2 : t.kind ≠ 2) (h3 : t.kind ≠ 3) (h4 : t.kind ≠ 4) : okL deep t = false := by
  cases t with
  | node k s n ks =>
    simp only [LitT.kind] at h1 h2 h3 h4
    simp [okL, h1, h2, h3, h4]
end Go.Proofs.Ytnjfjebmkajpbaa

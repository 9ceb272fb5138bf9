/- Chapter 05, plain: what is written are bytes; how many. -/
import Derived.Test.YtfinpgkehjbcpaaIF
namespace Go.Proofs.Ytfinpgkehjbcpaa
set_option linter.unusedVariables false
set_option linter.unusedSimpArgs false
theorem IsB.app {a b : List Int} (h : IsB a) (k : IsB b) : IsB (a ++ b) := fun x hx => (List.mem_append.1 hx).elim (h x) (k x)
theorem IsB.nil : IsB [] := fun x hx => absurd hx (by simp)
theorem cnt_isB : ∀ (k n : Nat), n < 128 ^ (k + 1) → IsB (cntV n)
  | 0, n, h => by rw [cnt_small (by omega)]; intro x hx; simp at hx; omega
  | k + 1, n, h => by
    by_cases h1 : n < 128
    · rw [cnt_small h1]; intro x hx; simp at hx; omega
    · rw [cnt_big h1]
      have ih := cnt_isB k (n / 128) (by rw [Nat.pow_succ] at h; omega)
      intro x hx
      rcases List.mem_cons.1 hx with rfl | q
      · omega
      · exact ih x q
theorem pow_ge (n : Nat) : n < 128 ^ (n + 1) := by
  induction n with
  | zero => decide
  | succ n ih => rw [Nat.pow_succ]; omega
theorem cntB (n : Nat) : IsB (cntV n) := cnt_isB n n (pow_ge n)
theorem flat_isB {α : Type} {f : α → List Int} : ∀ (l : List α), (∀ x, x ∈ l → IsB (f x)) → IsB (l.flatMap f)
  | [], _ => IsB.nil
  | y :: l, h => by
    rw [List.flatMap_cons]
    exact (h y (by simp)).app (flat_isB l (fun x hx => h x (by simp [hx])))
theorem flat_len {α : Type} {f : α → List Int} {b : Nat} : ∀ (l : List α), (∀ x, x ∈ l → (f x).length ≤ b) → (l.flatMap f).length ≤ b * l.length
  | [], _ => by simp
  | y :: l, h => by
    have h1 := h y (by simp)
    have h2 := flat_len l (fun x hx => h x (by simp [hx]))
    rw [List.flatMap_cons, List.length_append, List.length_cons, Nat.mul_succ]
    omega
theorem numB_isB (x : Int) : IsB (numB x) := by
  unfold numB; split
  · exact cntB _
  · exact IsB.nil
theorem objB_isB {m : Hp} (hS : Snd m) {o : Ob} (ho : o ∈ m.L) : IsB (objB m.L o) := by
  unfold objB
  refine ((((cntB _).app (cntB _)).app (cntB _)).app (cntB _)).app (flat_isB _ (fun x hx => ?_))
  unfold fldB
  split
  · exact numB_isB x
  · split
    · rename_i h
      intro y hy
      obtain rfl : y = x := by simpa using hy
      exact hS.byt o ho h y hx
    · exact cntB _
theorem objB_len {m : Hp} (hG : Good m) (hS : Snd m) {o : Ob} (ho : o ∈ m.L) : (objB m.L o).length ≤ 2340 := by
  have hfmt := hG.fmt o ho
  have hln := hG.len o ho
  have hw := hG.word o ho
  have hL := len_bd hG
  have hcm : mayV m.L o.cls = true := by
    rcases hS.cls o ho with q | q
    · rw [q]; rfl
    · exact isV_may q
  have h1 := cnt_len9 (n := o.fmt.toNat) (by omega)
  have h2 := cnt_len9 (n := o.F.length) (by omega)
  have h3 := cnt_len9 (n := foldV o.hash) (by have := fold_le (n := o.hash) (b := 1099511627776) ⟨by omega, by omega⟩; omega)
  have h4 := cnt_len9 (n := codeW m.L o.cls) (by have := codeW_le (L := m.L) (x := o.cls) (by omega) hcm; omega)
  have h5 := flds_len (L := m.L) (f := o.fmt) o.F (fun y hy => fld_len (by omega) (fun q => hS.wrd o ho q y hy) (hw.2.2 y hy) (by omega))
  unfold objB
  simp only [List.length_append]
  omega
theorem body_isB {m : Hp} (hS : Snd m) (l : List Int) : IsB (bodyB m l) := by
  unfold bodyB
  refine (((((show IsB [86, 73, 86, 49] from ?_).app (cntB _)).app (cntB _)).app (flat_isB _ (fun o ho => objB_isB hS ho))).app (cntB _)).app (flat_isB _ (fun x _ => cntB _))
  intro x hx
  simp at hx
  omega
theorem any_no {α : Type} {l : List α} {p : α → Bool} : (∀ x, x ∈ l → p x = false) ↔ l.any p = false := by
  rw [List.any_eq_false]
  exact ⟨fun h x hx => by rw [h x hx]; simp, fun h x hx => by simpa using h x hx⟩
end Go.Proofs.Ytfinpgkehjbcpaa
/- Chapter 05, plain: bytes read. -/
namespace Go.Proofs.Ytfinpgkehjbcpaa
set_option linter.unusedVariables false
set_option linter.unusedSimpArgs false
/-- what is left to be read; none: something was wrong -/
abbrev RdS := Option (List Int)
def byteR : RdS → Int × RdS
  | some (c :: l) => (c, some l)
  | _ => (0, none)
def mustR (b : Bool) (σ : RdS) : RdS := if b then σ else none
/-- a count, in so many bytes at most -/
def decC : Nat → List Int → Option (Nat × List Int)
  | 0, _ => none
  | _ + 1, [] => none
  | k + 1, c :: l => if c < 128 then (if 0 < c ∨ k = 8 then some (c.toNat, l) else none) else (decC k l).map (fun p => ((c - 128).toNat + 128 * p.1, p.2))
def cntR (most : Nat) : RdS → Nat × RdS
  | none => (0, none)
  | some l => match decC 9 l with
    | some (n, l') => if n ≤ most then (n, some l') else (0, none)
    | none => (0, none)
def numR (σ : RdS) : Int × RdS := (unfV (cntR 4611686018427387903 σ).1, (cntR 4611686018427387903 σ).2)
def badS (c : Nat) : Bool := decide (3 ≤ c) && decide (c % 2 = 1) && !(smallV (unfV ((c - 3) / 2))).2
def wrdR (σ : RdS) : Nat × RdS := ((cntR 4611686018427387904 σ).1, mustR (!badS (cntR 4611686018427387904 σ).1) (cntR 4611686018427387904 σ).2)
/-- a thing that was read: words as counts -/
structure Tng where
  fmt : Nat
  hash : Int
  cls : Nat
  F : List Int
def fldR (f : Nat) (σ : RdS) : Int × RdS := if f = 1 then numR σ else if f = 2 then byteR σ else (((wrdR σ).1 : Int), (wrdR σ).2)
def fldsR (f : Nat) : Nat → RdS → List Int × RdS
  | 0, σ => ([], σ)
  | _ + 1, none => ([], none)
  | n + 1, some l => ((fldR f (some l)).1 :: (fldsR f n (fldR f (some l)).2).1, (fldsR f n (fldR f (some l)).2).2)
def okH (h : Int) : Bool := decide (-1099511627776 ≤ h) && decide (h ≤ 1099511627776)
def okC (c : Nat) : Bool := decide (c = 0) || (decide (4 ≤ c) && decide (c % 2 = 0))
def objR (σ : RdS) : Tng × RdS :=
  let a := cntR 2 σ
  let n := cntR 256 a.2
  let h := numR n.2
  let c := wrdR h.2
  let F := fldsR a.1 n.1 (mustR (okC c.1) (mustR (okH h.1) c.2))
  (⟨a.1, h.1, c.1, F.1⟩, F.2)
def objsR : Nat → RdS → List Tng × RdS
  | 0, σ => ([], σ)
  | _ + 1, none => ([], none)
  | n + 1, some l => ((objR (some l)).1 :: (objsR n (objR (some l)).2).1, (objsR n (objR (some l)).2).2)
def wrdsR : Nat → RdS → List Int × RdS
  | 0, σ => ([], σ)
  | _ + 1, none => ([], none)
  | n + 1, some l => (((wrdR (some l)).1 : Int) :: (wrdsR n (wrdR (some l)).2).1, (wrdsR n (wrdR (some l)).2).2)
theorem cntR_none (m : Nat) : cntR m none = (0, none) := rfl
theorem cntR_le (m : Nat) (σ : RdS) : (cntR m σ).1 ≤ m := by
  unfold cntR
  split
  · exact Nat.zero_le _
  · split
    · split
      · assumption
      · exact Nat.zero_le _
    · exact Nat.zero_le _
theorem cntR_bad {m : Nat} {σ : RdS} (h : (cntR m σ).2 = none) : (cntR m σ).1 = 0 := by
  unfold cntR at h ⊢
  split at h
  · rfl
  · split at h
    · split at h
      · cases h
      · rename_i h1 h2; simp [h1, h2]
    · rename_i h1; simp [h1]
theorem decC_len : ∀ (k : Nat) (l : List Int) {n : Nat} {l' : List Int}, decC k l = some (n, l') → l'.length < l.length ∧ ∃ p, l = p ++ l'
  | 0, _, _, _, h => by cases h
  | _ + 1, [], _, _, h => by cases h
  | k + 1, c :: l, n, l', h => by
    unfold decC at h
    split at h
    · split at h
      · cases h; exact ⟨by simp, [c], rfl⟩
      · cases h
    · cases hd : decC k l with
      | none => rw [hd] at h; cases h
      | some p =>
        rw [hd] at h
        cases h
        obtain ⟨h1, q, h2⟩ := decC_len k l hd
        exact ⟨by simp; omega, c :: q, by rw [h2]; rfl⟩
end Go.Proofs.Ytfinpgkehjbcpaa

/- Chapter 06: what tokens are, on lists of bytes: plain mathematics. -/
import Derived.Test.YtnojndgmgkgnpaaChecked
import Derived.Test.YtnojndgmgkgnpaaMem
import Derived.Lib.Bytealg
import Derived.BigGuard
import Derived.Deep.Draws
import Derived.Deep.LoopGhost
import Derived.Maps.AppendAt
import Derived.LoopN
import Derived.BigRegion
import Derived.WalkMore
import Derived.Deep.DeepCutAuto
import Derived.Deep.CutRange
namespace Go.Proofs.Ytnojndgmgkgnpaa.Lx
abbrev Bs := List UInt8
def letB (c : UInt8) : Bool := (97 ≤ c && c ≤ 122) || (65 ≤ c && c ≤ 90)
def digB (c : UInt8) : Bool := 48 ≤ c && c ≤ 57
def alnB (c : UInt8) : Bool := letB c || digB c
def signs : Bs := [43, 45, 42, 47, 60, 62, 61, 126, 44, 64, 38, 37]
def marks : Bs := [94, 46, 59, 40, 41, 91, 93, 124]
def signB (c : UInt8) : Bool := signs.contains c
def markB (c : UInt8) : Bool := marks.contains c
def blankB (c : UInt8) : Bool := c == 9 || c == 10 || c == 13 || c == 32
structure Tok where
 kind : Int
 text : Bs
 num : Int
deriving DecidableEq
/-- an error, or what was taken and how many bytes -/
inductive Took (α : Type) where
 | err (e : Int)
 | ok (a : α) (n : Nat)
def hd (p : UInt8 → Bool) : Bs → Bool
 | [] => false
 | c :: _ => p c
def colonB : Bs → Bool
 | [] => false
 | c :: r => c == 58 && !(hd (· == 61) r)
def nmLen (l : Bs) : Nat := (l.takeWhile alnB).length
def big : Int := 1152921504606846976
/-- a number's value behind n; none: too great -/
def numV : Bs → Int → Option Int
 | [], n => some n
 | c :: r, n => if digB c then (if n * 10 + ((c.toNat : Int) - 48) > big then none else numV r (n * 10 + ((c.toNat : Int) - 48))) else some n
def digLen (l : Bs) : Nat := (l.takeWhile digB).length
/-- a text behind its first sign -/
def txt : Bs → Option (Bs × Nat)
 | [] => none
 | [c] => if c == 39 then some ([], 1) else none
 | c :: d :: r => if c == 39 then (if d == 39 then (txt r).map (fun x => (39 :: x.1, x.2 + 2)) else some ([], 1)) else (txt (d :: r)).map (fun x => (c :: x.1, x.2 + 1))
/-- more keywords of a symbol; none: one is too long -/
def kws : Nat → Bs → Option Nat
 | 0, _ => some 0
 | f + 1, l => if hd letB l && colonB (l.drop (nmLen l)) then (if nmLen l > 24 then none else (kws f (l.drop (nmLen l + 1))).map (· + (nmLen l + 1))) else some 0
/-- how many signs stand there, at most two -/
def sgLen (l : Bs) : Nat := min (l.takeWhile signB).length 2
def symV (l : Bs) : Took Bs :=
 if hd signB l then .ok (l.take (sgLen l)) (sgLen l)
 else if hd letB l then
  if nmLen l > 24 then .err 12
  else if colonB (l.drop (nmLen l)) then
   match kws l.length (l.drop (nmLen l + 1)) with
   | none => .err 12
   | some k => .ok (l.take (nmLen l + 1 + k)) (nmLen l + 1 + k)
  else .ok (l.take (nmLen l)) (nmLen l)
 else .err 10
/-- a name, a keyword -/
def wrdV (l : Bs) : Took Tok :=
 if nmLen l > 24 then .err 12
 else if colonB (l.drop (nmLen l)) then .ok ⟨2, l.take (nmLen l + 1), 0⟩ (nmLen l + 1)
 else .ok ⟨1, l.take (nmLen l), 0⟩ (nmLen l)
def tokV : Bs → Took Tok
 | [] => .err 10
 | c :: r =>
  if letB c then
   wrdV (c :: r)
  else if digB c then
   (match numV (c :: r) 0 with
       | none => .err 2
       | some n => .ok ⟨4, [], n⟩ (digLen (c :: r)))
  else if c == 39 then
   (match txt r with
       | none => .err 11
       | some (t, n) => .ok ⟨5, t, 0⟩ (n + 1))
  else if c == 35 then
   (if hd (· == 40) r then .ok ⟨7, [], 0⟩ 2
       else match symV r with
       | .err e => .err e
       | .ok t n => .ok ⟨6, t, 0⟩ (n + 1))
  else if c == 58 && hd (· == 61) r then .ok ⟨9, [], 0⟩ 2
  else if c == 58 && hd letB r then
   (if nmLen r > 24 then .err 12 else .ok ⟨8, r.take (nmLen r), 0⟩ (nmLen r + 1))
  else if signB c then .ok ⟨3, (c :: r).take (sgLen (c :: r)), 0⟩ (sgLen (c :: r))
  else if markB c then .ok ⟨10, [c], 0⟩ 1
  else .err 10
/-- where a remark's sign stands -/
def remV : Bs → Option Nat
 | [] => none
 | c :: r => if c == 34 then some 0 else (remV r).map (· + 1)
/-- how many bytes are blanks and remarks; whether a remark has no end -/
def skp : Nat → Bs → Nat × Bool
 | 0, _ => (0, false)
 | _ + 1, [] => (0, false)
 | f + 1, c :: r => if blankB c then ((skp f r).1 + 1, (skp f r).2)
  else if c == 34 then
   match remV r with
   | none => (0, true)
   | some k => ((skp f (r.drop (k + 1))).1 + (k + 2), (skp f (r.drop (k + 1))).2)
  else (0, false)
def skipV (l : Bs) : Nat × Bool := skp l.length l
structure ATok where
 kind : Int
 text : Bs
 num : Int
 at_ : Nat
deriving DecidableEq
inductive Toks where
 | err (at_ : Nat) (e : Int)
 | ok (l : List ATok)
def Toks.cons (t : ATok) : Toks → Toks
 | .err a e => .err a e
 | .ok l => .ok (t :: l)
def toksF : Nat → Nat → Bs → Toks
 | 0, at_, _ => .err at_ 0
 | f + 1, at_, l =>
  if (skipV l).2 then .err (at_ + (skipV l).1) 11
  else if (skipV l).1 = l.length then .ok [⟨0, [], 0, at_ + (skipV l).1⟩]
  else match tokV (l.drop (skipV l).1) with
   | .err e => .err (at_ + (skipV l).1) e
   | .ok t n => .cons ⟨t.kind, t.text, t.num, at_ + (skipV l).1⟩ (toksF f (at_ + (skipV l).1 + n) (l.drop ((skipV l).1 + n)))
def toksV (l : Bs) : Toks := toksF (l.length + 1) 0 l

/-! ### bounds -/
theorem nmLen_le (l : Bs) : nmLen l ≤ l.length := (List.takeWhile_prefix (p := alnB) (l := l)).length_le
theorem digLen_le (l : Bs) : digLen l ≤ l.length := (List.takeWhile_prefix (p := digB) (l := l)).length_le
theorem sgLen_le (l : Bs) : sgLen l ≤ l.length := by
 have := (List.takeWhile_prefix (p := signB) (l := l)).length_le
 unfold sgLen; omega
theorem hd_pos {p : UInt8 → Bool} {l : Bs} (h : hd p l = true) : 0 < l.length := by
 cases l with
 | nil => cases h
 | cons c r => simp
theorem colonB_lt {l : Bs} (h : colonB l = true) : 0 < l.length := by
 cases l with
 | nil => cases h
 | cons c r => simp
theorem txt_le : ∀ (l : Bs) (t : Bs) (n : Nat), txt l = some (t, n) → 1 ≤ n ∧ n ≤ l.length
 | [], t, n, h => by simp [txt] at h
 | [c], t, n, h => by
  unfold txt at h
  split at h
  ·simp at h; obtain ⟨_, rfl⟩ := h; simp
  ·cases h
 | c :: d :: r, t, n, h => by
  unfold txt at h
  split at h
  ·split at h
   ·cases hx : txt r with
    | none => rw [hx] at h; cases h
    | some x => rw [hx] at h; simp at h; obtain ⟨_, rfl⟩ := h; have := txt_le r x.1 x.2 hx; simp; omega
   ·simp at h; obtain ⟨_, rfl⟩ := h; simp
  ·cases hx : txt (d :: r) with
   | none => rw [hx] at h; cases h
   | some x => rw [hx] at h; simp at h; obtain ⟨_, rfl⟩ := h; have := txt_le (d :: r) x.1 x.2 hx; simp at this ⊢; omega
theorem kws_le : ∀ (f : Nat) (l : Bs) (k : Nat), kws f l = some k → k ≤ l.length
 | 0, l, k, h => by simp [kws] at h; omega
 | f + 1, l, k, h => by
  unfold kws at h
  split at h
  ·next hh =>
   split at h
   ·cases h
   ·cases hx : kws f (l.drop (nmLen l + 1)) with
    | none => rw [hx] at h; cases h
    | some x =>
     rw [hx] at h; simp at h; subst h
     have := kws_le f _ x hx
     have h1 := colonB_lt (by simpa using (Bool.and_eq_true _ _ ▸ hh : _ ∧ _).2)
     simp at this h1; omega
  ·simp at h; omega
/-! ### what stands behind a token's bytes does not matter -/
/-- what may stand behind: neither a letter, a digit, a sign, a colon, '=', nor a quote -/
def Sep (y : Bs) : Prop := hd alnB y = false ∧ hd signB y = false ∧ hd letB y = false ∧ hd digB y = false ∧ hd (· == 58) y = false ∧ hd (· == 61) y = false ∧ hd (· == 39) y = false ∧ hd (· == 40) y = false
theorem Sep.nil : Sep [] := ⟨rfl, rfl, rfl, rfl, rfl, rfl, rfl, rfl⟩
theorem Sep.blank (r : Bs) : Sep (32 :: r) := ⟨rfl, rfl, rfl, rfl, rfl, rfl, rfl, rfl⟩
theorem Sep.cons {c : UInt8} (r : Bs) (h : blankB c = true ∨ c = 34) : Sep (c :: r) := by
 rcases h with h | rfl
 ·simp [blankB] at h
  rcases h with ((rfl | rfl) | rfl) | rfl <;> exact ⟨rfl, rfl, rfl, rfl, rfl, rfl, rfl, rfl⟩
 ·exact ⟨rfl, rfl, rfl, rfl, rfl, rfl, rfl, rfl⟩
theorem kws_fuel : ∀ (f g : Nat) (l : Bs), l.length ≤ f → l.length ≤ g → kws f l = kws g l
 | 0, g, l, hf, hg => by
  obtain rfl : l = [] := List.eq_nil_of_length_eq_zero (by omega)
  cases g <;> simp [kws, hd]
 | f + 1, 0, l, hf, hg => by
  obtain rfl : l = [] := List.eq_nil_of_length_eq_zero (by omega)
  simp [kws, hd]
 | f + 1, g + 1, l, hf, hg => by
  unfold kws
  rw [kws_fuel f g (l.drop (nmLen l + 1)) (by simp; omega) (by simp; omega)]
/-! ### a text with something behind it -/
/-! ### what is skipped -/
theorem remV_lt : ∀ (l : Bs) (k : Nat), remV l = some k → k < l.length
 | [], k, h => by cases h
 | c :: r, k, h => by
  unfold remV at h
  split at h
  ·simp at h; subst h; simp
  ·cases hx : remV r with
   | none => rw [hx] at h; cases h
   | some j => rw [hx] at h; simp at h; subst h; have := remV_lt r j hx; simp; omega
theorem skp_fuel : ∀ (f g : Nat) (l : Bs), l.length ≤ f → l.length ≤ g → skp f l = skp g l
 | 0, g, l, hf, hg => by
  obtain rfl : l = [] := List.eq_nil_of_length_eq_zero (by omega)
  cases g <;> rfl
 | f + 1, 0, l, hf, hg => by
  obtain rfl : l = [] := List.eq_nil_of_length_eq_zero (by omega)
  rfl
 | f + 1, g + 1, [], hf, hg => rfl
 | f + 1, g + 1, c :: r, hf, hg => by
  simp only [skp]
  simp at hf hg
  rw [skp_fuel f g r (by omega) (by omega)]
  cases hx : remV r with
  | none => rfl
  | some k => simp only; rw [skp_fuel f g (r.drop (k + 1)) (by simp; omega) (by simp; omega)]
theorem skip_nil : skipV [] = (0, false) := rfl
theorem skip_cons (c : UInt8) (r : Bs) : skipV (c :: r) = if blankB c then ((skipV r).1 + 1, (skipV r).2) else if c == 34 then
   match remV r with
   | none => (0, true)
   | some k => ((skipV (r.drop (k + 1))).1 + (k + 2), (skipV (r.drop (k + 1))).2)
  else (0, false) := by
 unfold skipV
 simp only [List.length_cons, skp]
 cases hx : remV r with
 | none => rfl
 | some k => simp only; rw [skp_fuel r.length (r.drop (k + 1)).length (r.drop (k + 1)) (by simp) (Nat.le_refl _)]
theorem skip_le_aux : ∀ (f : Nat) (l : Bs), l.length ≤ f → (skipV l).1 ≤ l.length ∧ ((skipV l).2 = true → (skipV l).1 < l.length)
 | 0, l, hf => by
  obtain rfl : l = [] := List.eq_nil_of_length_eq_zero (by omega)
  simp [skip_nil]
 | f + 1, [], hf => by simp [skip_nil]
 | f + 1, c :: r, hf => by
  simp at hf
  rw [skip_cons]
  split
  ·have := skip_le_aux f r (by omega)
   simp only [List.length_cons]
   exact ⟨by omega, fun h => by have := this.2 h; omega⟩
  ·split
   ·cases hx : remV r with
    | none => simp
    | some k =>
     have h1 := remV_lt r k hx
     have := skip_le_aux f (r.drop (k + 1)) (by simp; omega)
     simp only [List.length_drop] at this
     simp only [List.length_cons]
     exact ⟨by omega, fun h => by have := this.2 h; omega⟩
   ·simp
theorem skip_le (l : Bs) : (skipV l).1 ≤ l.length := (skip_le_aux l.length l (Nat.le_refl _)).1
end Go.Proofs.Ytnojndgmgkgnpaa.Lx
/- Chapter 06: what tokens are: what follows of it. -/
namespace Go.Proofs.Ytnojndgmgkgnpaa.Lx
theorem nm_pos {c : UInt8} (r : Bs) (h : letB c = true) : 1 ≤ nmLen (c :: r) := by simp [nmLen, alnB, h]
theorem dig_pos {c : UInt8} (r : Bs) (h : digB c = true) : 1 ≤ digLen (c :: r) := by simp [digLen, h]
theorem sg_pos {c : UInt8} (r : Bs) (h : signB c = true) : 1 ≤ sgLen (c :: r) := by simp [sgLen, h]; omega
theorem hd_cons {p : UInt8 → Bool} {l : Bs} (h : hd p l = true) : ∃ c r, l = c :: r ∧ p c = true := by
 cases l with
 | nil => cases h
 | cons c r => exact ⟨c, r, rfl, h⟩
theorem sym_le {l t : Bs} {n : Nat} (h : symV l = .ok t n) : n ≤ l.length := by
 have h1 := nmLen_le l
 have h2 := sgLen_le l
 unfold symV at h
 split at h
 ·simp only [Took.ok.injEq] at h; omega
 ·split at h
  ·split at h
   ·cases h
   ·split at h
    ·next hc =>
     have := colonB_lt hc
     simp only [List.length_drop] at this
     cases hk : kws l.length (l.drop (nmLen l + 1)) with
     | none => rw [hk] at h; cases h
     | some k =>
      rw [hk] at h
      have hk' := kws_le _ _ _ hk
      simp only [List.length_drop] at hk'
      simp only [Took.ok.injEq] at h; omega
    ·simp only [Took.ok.injEq] at h; omega
  ·cases h
theorem wrd_le {l : Bs} {t : Tok} {n : Nat} (h : wrdV l = .ok t n) (h0 : 1 ≤ nmLen l) : 1 ≤ n ∧ n ≤ l.length ∧ t.kind ≠ 0 := by
 have h1 := nmLen_le l
 unfold wrdV at h
 split at h
 ·cases h
 ·split at h
  ·next hc =>
   have := colonB_lt hc
   simp only [List.length_drop] at this
   simp only [Took.ok.injEq] at h
   obtain ⟨rfl, rfl⟩ := h
   exact ⟨by omega, by omega, by simp⟩
  ·simp only [Took.ok.injEq] at h
   obtain ⟨rfl, rfl⟩ := h
   exact ⟨by omega, by omega, by simp⟩
theorem tok_pos {l : Bs} {t : Tok} {n : Nat} (h : tokV l = .ok t n) : 1 ≤ n ∧ n ≤ l.length ∧ t.kind ≠ 0 := by
 match l with
 | [] => cases h
 | c :: r =>
  have hr := nmLen_le r
  have hs := sgLen_le (c :: r)
  have hdl := digLen_le (c :: r)
  simp only [tokV] at h
  by_cases q1 : letB c = true
  ·rw [if_pos q1] at h; exact wrd_le h (nm_pos r q1)
  ·rw [if_neg q1] at h
   by_cases q2 : digB c = true
   ·rw [if_pos q2] at h
    have := dig_pos r q2
    cases hn : numV (c :: r) 0 with
    | none => rw [hn] at h; cases h
    | some v => rw [hn] at h; simp only [Took.ok.injEq] at h; obtain ⟨rfl, rfl⟩ := h; exact ⟨this, hdl, by simp⟩
   ·rw [if_neg q2] at h
    by_cases q3 : (c == 39) = true
    ·rw [if_pos q3] at h
     cases hx : txt r with
     | none => rw [hx] at h; cases h
     | some z =>
      have := txt_le r z.1 z.2 hx
      rw [hx] at h; simp only [Took.ok.injEq] at h; obtain ⟨rfl, rfl⟩ := h
      exact ⟨by omega, by simp; omega, by simp⟩
    ·rw [if_neg q3] at h
     by_cases q4 : (c == 35) = true
     ·rw [if_pos q4] at h
      by_cases q5 : hd (· == 40) r = true
      ·rw [if_pos q5] at h
       have := hd_pos q5
       simp only [Took.ok.injEq] at h; obtain ⟨rfl, rfl⟩ := h
       exact ⟨by omega, by simp; omega, by simp⟩
      ·rw [if_neg q5] at h
       cases hx : symV r with
       | err e => rw [hx] at h; cases h
       | ok u m =>
        have := sym_le hx
        rw [hx] at h; simp only [Took.ok.injEq] at h; obtain ⟨rfl, rfl⟩ := h
        exact ⟨by omega, by simp; omega, by simp⟩
     ·rw [if_neg q4] at h
      by_cases q5 : (c == 58 && hd (· == 61) r) = true
      ·rw [if_pos q5] at h
       simp only [Bool.and_eq_true] at q5
       have := hd_pos q5.2
       simp only [Took.ok.injEq] at h; obtain ⟨rfl, rfl⟩ := h
       exact ⟨by omega, by simp; omega, by simp⟩
      ·rw [if_neg q5] at h
       by_cases q6 : (c == 58 && hd letB r) = true
       ·rw [if_pos q6] at h
        split at h
        ·cases h
        ·simp only [Took.ok.injEq] at h; obtain ⟨rfl, rfl⟩ := h
         exact ⟨by omega, by simp; omega, by simp⟩
       ·rw [if_neg q6] at h
        by_cases q7 : signB c = true
        ·rw [if_pos q7] at h
         have := sg_pos r q7
         simp only [Took.ok.injEq] at h; obtain ⟨rfl, rfl⟩ := h
         exact ⟨this, hs, by simp⟩
        ·rw [if_neg q7] at h
         split at h
         ·simp only [Took.ok.injEq] at h; obtain ⟨rfl, rfl⟩ := h
          exact ⟨by omega, by simp, by simp⟩
         ·cases h
theorem toks_fuel : ∀ (f g at_ : Nat) (l : Bs), l.length < f → l.length < g → toksF f at_ l = toksF g at_ l
 | 0, g, at_, l, hf, hg => by omega
 | f + 1, 0, at_, l, hf, hg => by omega
 | f + 1, g + 1, at_, l, hf, hg => by
  have hk := skip_le l
  simp only [toksF]
  split
  ·rfl
  ·split
   ·rfl
   ·cases hx : tokV (l.drop (skipV l).1) with
    | err e => rfl
    | ok t n =>
     have := tok_pos hx
     simp only [List.length_drop] at this
     simp only
     rw [toks_fuel f g _ (l.drop ((skipV l).1 + n)) (by simp; omega) (by simp; omega)]
def ATok.shift (d : Nat) (t : ATok) : ATok := ⟨t.kind, t.text, t.num, t.at_ + d⟩
def Toks.shift (d : Nat) : Toks → Toks
 | .err a e => .err (a + d) e
 | .ok l => .ok (l.map (ATok.shift d))
/-- blanks and remarks that are whole -/
def Whole (p : Bs) : Prop := ∀ x, skipV (p ++ x) = (p.length + (skipV x).1, (skipV x).2)
def tz : ATok := ⟨0, [], 0, 0⟩
/-- each token's bytes up to the next one, and a blank -/
def spA (s : Bs) : List ATok → Bs
 | a :: b :: r => (s.drop a.at_).take (b.at_ - a.at_) ++ 32 :: spA s (b :: r)
 | _ => []
def same3 (t : ATok) : Int × Bs × Int := (t.kind, t.text, t.num)
def Toks.app (L : List ATok) : Toks → Toks
 | .err a e => .err a e
 | .ok B => .ok (L ++ B)
end Go.Proofs.Ytnojndgmgkgnpaa.Lx
/- Chapter 06: contracts of the leaves: what a byte is; where a byte stands. -/
namespace Go.Proofs.Ytnojndgmgkgnpaa.Lx
open Go.ChangeShapes Go.WideShapes Go.ChangeAt Go.RowKit
set_option linter.unusedVariables false
set_option linter.unusedSimpArgs false
theorem let_eq (c : UInt8) : letB c = ((decide (97 ≤ (c.toNat : Int)) && decide ((c.toNat : Int) ≤ 122)) || (decide (65 ≤ (c.toNat : Int)) && decide ((c.toNat : Int) ≤ 90))) := by
 unfold letB
 rw [Bool.eq_iff_iff]
 simp only [UInt8.le_iff_toNat_le, Bool.or_eq_true, Bool.and_eq_true, decide_eq_true_eq]
 simp; omega
theorem dig_eq (c : UInt8) : digB c = (decide (48 ≤ (c.toNat : Int)) && decide ((c.toNat : Int) ≤ 57)) := by
 unfold digB
 rw [Bool.eq_iff_iff]
 simp only [UInt8.le_iff_toNat_le, Bool.and_eq_true, decide_eq_true_eq]
 simp; omega
theorem ret_bool {a b : Bool} (h : a = b) : Ending.returned (.bool a) = .returned (.bool b) := by rw [h]
def memB (l : Bs) (c : UInt8) : Bool := decide (0 ≤ Lib.indexByte l c)
def notQ (c : UInt8) : Bool := c != 39
/-- a reader at a place of a source -/
structure At (w : World) (b : Nat) (s : ByteArray) (i : Nat) : Prop where
 c0 : w.cell? ⟨b, 0, none⟩ = some (.string s)
 c1 : w.cell? ⟨b, 1, none⟩ = some (.int .i64 i)
 f1 : w.frozen? ⟨b, 1, none⟩ = false
def byteU (s : ByteArray) (i : Nat) : UInt8 := if h : i < s.size then s[i] else 0
end Go.Proofs.Ytnojndgmgkgnpaa.Lx
/- Chapter 06: a run of bytes that are so. -/
namespace Go.Proofs.Ytnojndgmgkgnpaa.Lx
open Go.ChangeShapes Go.WideShapes Go.ChangeAt Go.RowKit
set_option linter.unusedVariables false
set_option linter.unusedSimpArgs false
theorem grown_setCell {w c : World} {b o : Nat} (h : w.grownBy c (some b)) (v : Value) : w.grownBy (c.setCell ⟨b, o, none⟩ v) (some b) :=
 ⟨h.os, h.tape, h.output, by simpa using h.size, fun k hk hne => (heap_setCell_other c ⟨b, o, none⟩ k v (fun e => hne (by simp at e; rw [e]))).trans (h.block k hk hne)⟩
theorem grown_drewN {w c : World} {r : Option Nat} (h : w.grownBy c r) (n : Nat) : w.grownBy (c.drewN n) r := ⟨h.os, h.tape, h.output, h.size, h.block⟩
theorem At.drewN {w : World} {b : Nat} {s : ByteArray} {i : Nat} (h : At w b s i) (n : Nat) : At (w.drewN n) b s i := ⟨h.c0, h.c1, h.f1⟩
theorem At.set {w : World} {b : Nat} {s : ByteArray} {i : Nat} (h : At w b s i) (j : Nat) : At (w.setCell ⟨b, 1, none⟩ (.int .i64 j)) b s j :=
 ⟨by rw [World.cell?_setCell_other _ _ _ _ (by simp)]; exact h.c0, World.cell?_setCell_same _ _ _ h.c1, by rw [World.frozen?_setCell]; exact h.f1⟩
/-- how many bytes run from a place on -/
def rl (p : UInt8 → Bool) (l : Bs) (m : Nat) : Nat := min (l.takeWhile p).length m
theorem rl_succ {p : UInt8 → Bool} {l : Bs} {m k : Nat} (hk : k ≤ rl p l m) : k < rl p l m ↔ (k < m ∧ hd p (l.drop k) = true) := by
 unfold rl at hk ⊢
 have key : ∀ (l : Bs) (k : Nat), k ≤ (l.takeWhile p).length → (k < (l.takeWhile p).length ↔ hd p (l.drop k) = true) := by
  intro l
  induction l with
  | nil => intro k hk; simp at hk; subst hk; simp [hd]
  | cons c r ih =>
   intro k hk
   cases hc : p c
   ·simp [hc] at hk; subst hk; simp [hd, hc]
   ·simp only [List.takeWhile_cons, hc, if_true, List.length_cons] at hk ⊢
    cases k with
    | zero => simp [hd, hc]
    | succ k => simp only [List.drop_succ_cons]; rw [← ih k (by omega)]; omega
 have := key l k (by omega)
 rw [← this]; omega
theorem hd_drop {p : UInt8 → Bool} {s : ByteArray} {j : Nat} (h : j < s.size) : hd p (s.data.toList.drop j) = p s[j] := by
 rw [List.drop_eq_getElem_cons (by simpa using h)]; rfl
theorem hd_end {p : UInt8 → Bool} {s : ByteArray} {j : Nat} (h : s.size ≤ j) : hd p (s.data.toList.drop j) = false := by
 rw [List.drop_eq_nil_of_le (by simpa using h)]; rfl


end Go.Proofs.Ytnojndgmgkgnpaa.Lx
/- Chapter 06: a colon; a name; a text. -/
namespace Go.Proofs.Ytnojndgmgkgnpaa.Lx
open Go.ChangeShapes Go.WideShapes Go.ChangeAt Go.RowKit
set_option linter.unusedVariables false
set_option linter.unusedSimpArgs false
theorem hd_byte {p : UInt8 → Bool} (h0 : p 0 = false) (s : ByteArray) (i : Nat) : hd p (s.data.toList.drop i) = p (byteU s i) := by
 unfold byteU
 by_cases h : i < s.size
 ·rw [dif_pos h, hd_drop h]
 ·rw [dif_neg h, hd_end (by omega), h0]
theorem u8_eq (x : UInt8) (k : Nat) (hk : k < 256) : ((x.toNat : Int) == (k : Int)) = (x == UInt8.ofNat k) := by
 rw [Bool.eq_iff_iff]
 simp only [beq_iff_eq]
 constructor
 ·intro h
  have : x.toNat = k := by omega
  rw [← this]; simp
 ·intro h
  rw [h]; simp; omega
theorem u8_ne (x : UInt8) (k : Nat) (hk : k < 256) : ((x.toNat : Int) != (k : Int)) = !(x == UInt8.ofNat k) := by
 unfold bne; rw [u8_eq x k hk]
/-- what a reader's deed leaves -/
structure Went (w w' : World) (b : Nat) (s : ByteArray) (i : Nat) : Prop where
 at_ : At w' b s i
 grown : w.grownBy w' (some b)
theorem Went.drewN {w w' : World} {b : Nat} {s : ByteArray} {i : Nat} (h : Went w w' b s i) (n : Nat) : Went w (w'.drewN n) b s i := ⟨h.at_.drewN n, grown_drewN h.grown n⟩
theorem Went.set {w w' : World} {b : Nat} {s : ByteArray} {i : Nat} (h : Went w w' b s i) (j : Nat) : Went w (w'.setCell ⟨b, 1, none⟩ (.int .i64 j)) b s j := ⟨h.at_.set j, grown_setCell h.grown _⟩
theorem Went.refl {w : World} {b : Nat} {s : ByteArray} {i : Nat} (h : At w b s i) : Went w w b s i := ⟨h, World.grownBy.refl _ _⟩
theorem Went.trans {a c d : World} {b : Nat} {s : ByteArray} {i j : Nat} (h : Went a c b s i) (k : Went c d b s j) : Went a d b s j := ⟨k.at_, h.grown.trans k.grown⟩
theorem colon_eq (s : ByteArray) (i : Nat) : colonB (s.data.toList.drop i) = (byteU s i == 58 && !(byteU s (i + 1) == 61)) := by
 rw [← hd_byte (p := (· == 61)) rfl s (i + 1), ← hd_byte (p := (· == 58)) rfl s i, ← List.drop_drop]
 generalize s.data.toList.drop i = l
 cases l <;> rfl
def colEnd (s : ByteArray) (i : Nat) : Nat := if colonB (s.data.toList.drop i) then i + 1 else i
theorem size_ext (s : ByteArray) (i n : Nat) (h : i + n ≤ s.size) : (s.extract i (i + n)).size = n := by simp; omega
def nmRet (s : ByteArray) (i : Nat) : Ending := if nmLen (s.data.toList.drop i) > 24 then .returned (.tuple #[.string ⟨#[]⟩, .int .i64 12]) else .returned (.tuple #[.string (s.extract i (i + nmLen (s.data.toList.drop i))), .int .i64 0])
theorem nm_bd (s : ByteArray) (i : Nat) (hi : i ≤ s.size) : i + nmLen (s.data.toList.drop i) ≤ s.size := by
 have := nmLen_le (s.data.toList.drop i)
 simp at this
 have : s.data.size = s.size := rfl
 omega
end Go.Proofs.Ytnojndgmgkgnpaa.Lx
/- Chapter 06: contracts of the reference: what a byte is; names; colons. -/
namespace Go.Proofs.Ytnojndgmgkgnpaa.Lx
open Go.ChangeShapes Go.WideShapes Go.ChangeAt Go.RowKit
set_option linter.unusedVariables false
set_option linter.unusedSimpArgs false
/-- a byte's kind -/
def kindV (c : UInt8) : Int := if letB c then 1 else if digB c then 2 else if blankB c then 5 else if signB c then 3 else if markB c then 4 else 0
theorem ret_int {k : IntKind} {a b : Int} (h : a = b) : Ending.returned (.int k a) = .returned (.int k b) := by rw [h]
set_option maxRecDepth 100000 in
set_option maxHeartbeats 4000000 in
theorem kind_let (c : UInt8) (w : World) (hl : letB c = true) : Calls Try.prog 32 #[.int .u8 c.toNat] w fun e w' => e = .returned (.int .i64 (kindV c)) ∧ w' = w := by
 have F : Hid (kindV c = 1) := by show _ = _; unfold kindV; rw [if_pos hl]
 have hd := let_eq c
 rw [hl] at hd
 have hd' := hd.symm
 simp only [Bool.or_eq_true, Bool.and_eq_true, decide_eq_true_eq] at hd'
 clear hd hl
 rcases hd' with ⟨h1, h2⟩ | ⟨h1, h2⟩
 ·go_enter Try.func32, Try.ntmps32
  go_wp2
  go_ret
  exact ⟨ret_int F.out.symm, rfl⟩
 ·have h3 : ¬ 97 ≤ (c.toNat : Int) := by omega
  go_enter Try.func32, Try.ntmps32
  go_wp2
  go_ret
  exact ⟨ret_int F.out.symm, rfl⟩
set_option maxRecDepth 100000 in
set_option maxHeartbeats 4000000 in
theorem kind_dig (c : UInt8) (w : World) (hl : letB c = false) (hg : digB c = true) : Calls Try.prog 32 #[.int .u8 c.toNat] w fun e w' => e = .returned (.int .i64 (kindV c)) ∧ w' = w := by
 have F : Hid (kindV c = 2) := by show _ = _; unfold kindV; rw [if_neg (by simp [hl]), if_pos hg]
 have hd := dig_eq c
 rw [hg] at hd
 have hd' := hd.symm
 simp only [Bool.and_eq_true, decide_eq_true_eq] at hd'
 obtain ⟨h1, h2⟩ := hd'
 have h3 : ¬ 97 ≤ (c.toNat : Int) := by omega
 have h4 : ¬ 65 ≤ (c.toNat : Int) := by omega
 clear hd hl hg
 go_enter Try.func32, Try.ntmps32
 go_wp2
 go_ret
 exact ⟨ret_int F.out.symm, rfl⟩
end Go.Proofs.Ytnojndgmgkgnpaa.Lx
/- Chapter 06: contracts of the reference: what a byte is, to its end. -/
namespace Go.Proofs.Ytnojndgmgkgnpaa.Lx
open Go.ChangeShapes Go.WideShapes Go.ChangeAt Go.RowKit
set_option linter.unusedVariables false
set_option linter.unusedSimpArgs false

set_option maxRecDepth 100000 in
set_option maxHeartbeats 8000000 in
theorem kind_b9 (w : World) : Calls Try.prog 32 #[.int .u8 9] w fun e w' => e = .returned (.int .i64 5) ∧ w' = w := by
 go_enter Try.func32, Try.ntmps32
 go_wp2
 go_ret
 exact ⟨rfl, rfl⟩
set_option maxRecDepth 100000 in
set_option maxHeartbeats 8000000 in
theorem kind_b10 (w : World) : Calls Try.prog 32 #[.int .u8 10] w fun e w' => e = .returned (.int .i64 5) ∧ w' = w := by
 go_enter Try.func32, Try.ntmps32
 go_wp2
 go_ret
 exact ⟨rfl, rfl⟩
set_option maxRecDepth 100000 in
set_option maxHeartbeats 8000000 in
theorem kind_b13 (w : World) : Calls Try.prog 32 #[.int .u8 13] w fun e w' => e = .returned (.int .i64 5) ∧ w' = w := by
 go_enter Try.func32, Try.ntmps32
 go_wp2
 go_ret
 exact ⟨rfl, rfl⟩
set_option maxRecDepth 100000 in
set_option maxHeartbeats 8000000 in
theorem kind_b32 (w : World) : Calls Try.prog 32 #[.int .u8 32] w fun e w' => e = .returned (.int .i64 5) ∧ w' = w := by
 go_enter Try.func32, Try.ntmps32
 go_wp2
 go_ret
 exact ⟨rfl, rfl⟩
set_option maxRecDepth 100000 in
set_option maxHeartbeats 8000000 in
theorem kind_s43 (w : World) : Calls Try.prog 32 #[.int .u8 43] w fun e w' => e = .returned (.int .i64 3) ∧ w' = w := by
 go_enter Try.func32, Try.ntmps32
 go_wp2
 go_rounds 13
 go_ret
 exact ⟨rfl, rfl⟩
set_option maxRecDepth 100000 in
set_option maxHeartbeats 8000000 in
theorem kind_s45 (w : World) : Calls Try.prog 32 #[.int .u8 45] w fun e w' => e = .returned (.int .i64 3) ∧ w' = w := by
 go_enter Try.func32, Try.ntmps32
 go_wp2
 go_rounds 13
 go_ret
 exact ⟨rfl, rfl⟩
set_option maxRecDepth 100000 in
set_option maxHeartbeats 8000000 in
theorem kind_s42 (w : World) : Calls Try.prog 32 #[.int .u8 42] w fun e w' => e = .returned (.int .i64 3) ∧ w' = w := by
 go_enter Try.func32, Try.ntmps32
 go_wp2
 go_rounds 13
 go_ret
 exact ⟨rfl, rfl⟩
set_option maxRecDepth 100000 in
set_option maxHeartbeats 8000000 in
theorem kind_s47 (w : World) : Calls Try.prog 32 #[.int .u8 47] w fun e w' => e = .returned (.int .i64 3) ∧ w' = w := by
 go_enter Try.func32, Try.ntmps32
 go_wp2
 go_rounds 13
 go_ret
 exact ⟨rfl, rfl⟩
set_option maxRecDepth 100000 in
set_option maxHeartbeats 8000000 in
theorem kind_s60 (w : World) : Calls Try.prog 32 #[.int .u8 60] w fun e w' => e = .returned (.int .i64 3) ∧ w' = w := by
 go_enter Try.func32, Try.ntmps32
 go_wp2
 go_rounds 13
 go_ret
 exact ⟨rfl, rfl⟩
set_option maxRecDepth 100000 in
set_option maxHeartbeats 8000000 in
theorem kind_s62 (w : World) : Calls Try.prog 32 #[.int .u8 62] w fun e w' => e = .returned (.int .i64 3) ∧ w' = w := by
 go_enter Try.func32, Try.ntmps32
 go_wp2
 go_rounds 13
 go_ret
 exact ⟨rfl, rfl⟩
set_option maxRecDepth 100000 in
set_option maxHeartbeats 8000000 in
theorem kind_s61 (w : World) : Calls Try.prog 32 #[.int .u8 61] w fun e w' => e = .returned (.int .i64 3) ∧ w' = w := by
 go_enter Try.func32, Try.ntmps32
 go_wp2
 go_rounds 13
 go_ret
 exact ⟨rfl, rfl⟩
set_option maxRecDepth 100000 in
set_option maxHeartbeats 8000000 in
theorem kind_s126 (w : World) : Calls Try.prog 32 #[.int .u8 126] w fun e w' => e = .returned (.int .i64 3) ∧ w' = w := by
 go_enter Try.func32, Try.ntmps32
 go_wp2
 go_rounds 13
 go_ret
 exact ⟨rfl, rfl⟩
set_option maxRecDepth 100000 in
set_option maxHeartbeats 8000000 in
theorem kind_s44 (w : World) : Calls Try.prog 32 #[.int .u8 44] w fun e w' => e = .returned (.int .i64 3) ∧ w' = w := by
 go_enter Try.func32, Try.ntmps32
 go_wp2
 go_rounds 13
 go_ret
 exact ⟨rfl, rfl⟩
set_option maxRecDepth 100000 in
set_option maxHeartbeats 8000000 in
theorem kind_s64 (w : World) : Calls Try.prog 32 #[.int .u8 64] w fun e w' => e = .returned (.int .i64 3) ∧ w' = w := by
 go_enter Try.func32, Try.ntmps32
 go_wp2
 go_rounds 13
 go_ret
 exact ⟨rfl, rfl⟩
set_option maxRecDepth 100000 in
set_option maxHeartbeats 8000000 in
theorem kind_s38 (w : World) : Calls Try.prog 32 #[.int .u8 38] w fun e w' => e = .returned (.int .i64 3) ∧ w' = w := by
 go_enter Try.func32, Try.ntmps32
 go_wp2
 go_rounds 13
 go_ret
 exact ⟨rfl, rfl⟩
set_option maxRecDepth 100000 in
set_option maxHeartbeats 8000000 in
theorem kind_s37 (w : World) : Calls Try.prog 32 #[.int .u8 37] w fun e w' => e = .returned (.int .i64 3) ∧ w' = w := by
 go_enter Try.func32, Try.ntmps32
 go_wp2
 go_rounds 13
 go_ret
 exact ⟨rfl, rfl⟩
set_option maxRecDepth 100000 in
set_option maxHeartbeats 8000000 in
theorem kind_m94 (w : World) : Calls Try.prog 32 #[.int .u8 94] w fun e w' => e = .returned (.int .i64 4) ∧ w' = w := by
 go_enter Try.func32, Try.ntmps32
 go_wp2
 go_rounds 13
 go_rounds 9
 go_ret
 exact ⟨rfl, rfl⟩
set_option maxRecDepth 100000 in
set_option maxHeartbeats 8000000 in
theorem kind_m46 (w : World) : Calls Try.prog 32 #[.int .u8 46] w fun e w' => e = .returned (.int .i64 4) ∧ w' = w := by
 go_enter Try.func32, Try.ntmps32
 go_wp2
 go_rounds 13
 go_rounds 9
 go_ret
 exact ⟨rfl, rfl⟩
set_option maxRecDepth 100000 in
set_option maxHeartbeats 8000000 in
theorem kind_m59 (w : World) : Calls Try.prog 32 #[.int .u8 59] w fun e w' => e = .returned (.int .i64 4) ∧ w' = w := by
 go_enter Try.func32, Try.ntmps32
 go_wp2
 go_rounds 13
 go_rounds 9
 go_ret
 exact ⟨rfl, rfl⟩
set_option maxRecDepth 100000 in
set_option maxHeartbeats 8000000 in
theorem kind_m40 (w : World) : Calls Try.prog 32 #[.int .u8 40] w fun e w' => e = .returned (.int .i64 4) ∧ w' = w := by
 go_enter Try.func32, Try.ntmps32
 go_wp2
 go_rounds 13
 go_rounds 9
 go_ret
 exact ⟨rfl, rfl⟩
set_option maxRecDepth 100000 in
set_option maxHeartbeats 8000000 in
theorem kind_m41 (w : World) : Calls Try.prog 32 #[.int .u8 41] w fun e w' => e = .returned (.int .i64 4) ∧ w' = w := by
 go_enter Try.func32, Try.ntmps32
 go_wp2
 go_rounds 13
 go_rounds 9
 go_ret
 exact ⟨rfl, rfl⟩
set_option maxRecDepth 100000 in
set_option maxHeartbeats 8000000 in
theorem kind_m91 (w : World) : Calls Try.prog 32 #[.int .u8 91] w fun e w' => e = .returned (.int .i64 4) ∧ w' = w := by
 go_enter Try.func32, Try.ntmps32
 go_wp2
 go_rounds 13
 go_rounds 9
 go_ret
 exact ⟨rfl, rfl⟩
set_option maxRecDepth 100000 in
set_option maxHeartbeats 8000000 in
theorem kind_m93 (w : World) : Calls Try.prog 32 #[.int .u8 93] w fun e w' => e = .returned (.int .i64 4) ∧ w' = w := by
 go_enter Try.func32, Try.ntmps32
 go_wp2
 go_rounds 13
 go_rounds 9
 go_ret
 exact ⟨rfl, rfl⟩
set_option maxRecDepth 100000 in
set_option maxHeartbeats 8000000 in
theorem kind_m124 (w : World) : Calls Try.prog 32 #[.int .u8 124] w fun e w' => e = .returned (.int .i64 4) ∧ w' = w := by
 go_enter Try.func32, Try.ntmps32
 go_wp2
 go_rounds 13
 go_rounds 9
 go_ret
 exact ⟨rfl, rfl⟩
end Go.Proofs.Ytnojndgmgkgnpaa.Lx
/- Chapter 06: contracts of the reference: what a byte is; of one that is nothing. -/
namespace Go.Proofs.Ytnojndgmgkgnpaa.Lx
open Go.ChangeShapes Go.WideShapes Go.ChangeAt Go.RowKit
set_option linter.unusedVariables false
set_option linter.unusedSimpArgs false

theorem no_sign (c : UInt8) (hn : (signB c || markB c) = false) (k : Nat) (hk : k < 12) : ((((⟨#[43, 45, 42, 47, 60, 62, 61, 126, 44, 64, 38, 37]⟩ : ByteArray)[k]'hk).toNat : Int) == (c.toNat : Int)) = false := by
 have hall : ∀ k (h : k < 12), signB ((⟨#[43, 45, 42, 47, 60, 62, 61, 126, 44, 64, 38, 37]⟩ : ByteArray)[k]'h) = true := by decide
 have h1 := hall k hk
 cases hh : ((((⟨#[43, 45, 42, 47, 60, 62, 61, 126, 44, 64, 38, 37]⟩ : ByteArray)[k]'hk).toNat : Int) == (c.toNat : Int))
 ·rfl
 ·have h2 : ((⟨#[43, 45, 42, 47, 60, 62, 61, 126, 44, 64, 38, 37]⟩ : ByteArray)[k]'hk) = c := by
   apply UInt8.toNat_inj.1
   have := beq_iff_eq.1 hh
   omega
  rw [h2] at h1
  rw [h1] at hn
  simp at hn
theorem no_mark (c : UInt8) (hn : (signB c || markB c) = false) (k : Nat) (hk : k < 8) : ((((⟨#[94, 46, 59, 40, 41, 91, 93, 124]⟩ : ByteArray)[k]'hk).toNat : Int) == (c.toNat : Int)) = false := by
 have hall : ∀ k (h : k < 8), markB ((⟨#[94, 46, 59, 40, 41, 91, 93, 124]⟩ : ByteArray)[k]'h) = true := by decide
 have h1 := hall k hk
 cases hh : ((((⟨#[94, 46, 59, 40, 41, 91, 93, 124]⟩ : ByteArray)[k]'hk).toNat : Int) == (c.toNat : Int))
 ·rfl
 ·have h2 : ((⟨#[94, 46, 59, 40, 41, 91, 93, 124]⟩ : ByteArray)[k]'hk) = c := by
   apply UInt8.toNat_inj.1
   have := beq_iff_eq.1 hh
   omega
  rw [h2] at h1
  rw [h1] at hn
  simp at hn
set_option maxRecDepth 100000 in
set_option maxHeartbeats 8000000 in
theorem kind_none (c : UInt8) (w : World) (hl : letB c = false) (hg : digB c = false) (hb : blankB c = false) (hn : (signB c || markB c) = false) : Calls Try.prog 32 #[.int .u8 c.toNat] w fun e w' => e = .returned (.int .i64 0) ∧ w' = w := by
 have HN := Lib.hid hn
 have b9 : ((c.toNat : Int) == 9) = false := (u8_eq c 9 (by omega)).trans (beq_false_of_ne (fun e => by rw [e] at hb; revert hb; decide))
 have b10 : ((c.toNat : Int) == 10) = false := (u8_eq c 10 (by omega)).trans (beq_false_of_ne (fun e => by rw [e] at hb; revert hb; decide))
 have b13 : ((c.toNat : Int) == 13) = false := (u8_eq c 13 (by omega)).trans (beq_false_of_ne (fun e => by rw [e] at hb; revert hb; decide))
 have b32 : ((c.toNat : Int) == 32) = false := (u8_eq c 32 (by omega)).trans (beq_false_of_ne (fun e => by rw [e] at hb; revert hb; decide))
 have k1 := let_eq c
 have k2 := dig_eq c
 rw [hl] at k1
 rw [hg] at k2
 have k1' := k1.symm
 have k2' := k2.symm
 simp only [Bool.or_eq_false_iff, Bool.and_eq_false_iff, decide_eq_false_iff_not] at k1' k2'
 have hr : (c.toNat : Int) < 48 ∨ (57 < (c.toNat : Int) ∧ (c.toNat : Int) < 65) ∨ (90 < (c.toNat : Int) ∧ (c.toNat : Int) < 97) ∨ 122 < (c.toNat : Int) := by omega
 clear k1 k2 k1' k2' hl hg hb hn
 rcases hr with hr | ⟨hr, hr'⟩ | ⟨hr, hr'⟩ | hr
 all_goals
  go_enter Try.func32, Try.ntmps32
  go_wp2
  go_loop [4] (fun i => ∃ k : Nat, k ≤ 12 ∧ i = .int .i64 k) (fun i => 12 - (intOf i).toNat)
  case atStart => exact ⟨0, by omega, rfl⟩
  case round =>
   obtain ⟨k, hk, rfl⟩ := hrel
   by_cases hlt : k < 12
   ·have d : decide (k < 12) = true := decide_eq_true hlt
    have b1 : (0 : Int) ≤ (k : Int) := by omega
    have b2 : (k : Int) < 12 := by omega
    have ht := no_sign c HN.out k hlt
    go_wp2
    go_round
    case rel => exact ⟨k + 1, by omega, by go_num⟩
    case measure => simp [intOf]; omega
   ·have hkn : k = 12 := by omega
    subst hkn
    go_wp2
    go_loop [6] (fun i => ∃ k : Nat, k ≤ 8 ∧ i = .int .i64 k) (fun i => 8 - (intOf i).toNat)
    case atStart => exact ⟨0, by omega, rfl⟩
    case round =>
     obtain ⟨k, hk, rfl⟩ := hrel
     by_cases hlt : k < 8
     ·have d : decide (k < 8) = true := decide_eq_true hlt
      have b1 : (0 : Int) ≤ (k : Int) := by omega
      have b2 : (k : Int) < 8 := by omega
      have ht := no_mark c HN.out k hlt
      go_wp2
      go_round
      case rel => exact ⟨k + 1, by omega, by go_num⟩
      case measure => simp [intOf]; omega
     ·have hkn : k = 8 := by omega
      subst hkn
      go_wp2
      go_ret
      exact ⟨rfl, rfl⟩

end Go.Proofs.Ytnojndgmgkgnpaa.Lx
/- Chapter 06: contracts of the reference: kinds, names, colons. -/
namespace Go.Proofs.Ytnojndgmgkgnpaa.Lx
open Go.ChangeShapes Go.WideShapes Go.ChangeAt Go.RowKit
set_option linter.unusedVariables false
set_option linter.unusedSimpArgs false
theorem kind_any (c : UInt8) (w : World) : Calls Try.prog 32 #[.int .u8 c.toNat] w fun e w' => e = .returned (.int .i64 (kindV c)) ∧ w' = w := by
 cases hl : letB c
 ·cases hg : digB c
  ·cases hb : blankB c
   ·cases hs : signB c
    ·cases hm : markB c
     ·have := kind_none c w hl hg hb (by rw [hs, hm]; rfl)
      have F : kindV c = 0 := by simp [kindV, hl, hg, hb, hs, hm]
      rw [F]; exact this
     ·have F : kindV c = 4 := by simp [kindV, hl, hg, hb, hs, hm]
      rw [F]
      simp [markB, marks] at hm
      rcases hm with rfl | rfl | rfl | rfl | rfl | rfl | rfl | rfl
      ·exact kind_m94 w
      ·exact kind_m46 w
      ·exact kind_m59 w
      ·exact kind_m40 w
      ·exact kind_m41 w
      ·exact kind_m91 w
      ·exact kind_m93 w
      ·exact kind_m124 w
    ·have F : kindV c = 3 := by simp [kindV, hl, hg, hb, hs]
     rw [F]
     simp [signB, signs] at hs
     rcases hs with rfl | rfl | rfl | rfl | rfl | rfl | rfl | rfl | rfl | rfl | rfl | rfl
     ·exact kind_s43 w
     ·exact kind_s45 w
     ·exact kind_s42 w
     ·exact kind_s47 w
     ·exact kind_s60 w
     ·exact kind_s62 w
     ·exact kind_s61 w
     ·exact kind_s126 w
     ·exact kind_s44 w
     ·exact kind_s64 w
     ·exact kind_s38 w
     ·exact kind_s37 w
   ·have F : kindV c = 5 := by simp [kindV, hl, hg, hb]
    rw [F]
    simp [blankB] at hb
    rcases hb with ((rfl | rfl) | rfl) | rfl
    ·exact kind_b9 w
    ·exact kind_b10 w
    ·exact kind_b13 w
    ·exact kind_b32 w
  ·exact kind_dig c w hl hg
 ·exact kind_let c w hl
/-- what stands at a place -/
def atV (s : ByteArray) (i : Nat) : Int := if h : i < s.size then kindV s[i] else -1
theorem rat_any (s : ByteArray) (i : Nat) (w : World) (hs : s.size ≤ 100000) : Calls Try.prog 33 #[.string s, .int .i64 i] w fun e w' => e = .returned (.int .i64 (atV s i)) ∧ w' = w := by
 by_cases h : i < s.size
 ·have F : Hid (atV s i = kindV s[i]) := dif_pos h
  have d : decide (s.size ≤ i) = false := decide_eq_false (by omega)
  have d' : decide ((s.size : Int) ≤ (i : Int)) = false := decide_eq_false (by omega)
  have b1 : (0 : Int) ≤ (i : Int) := by omega
  have b2 : (i : Int) < (s.size : Int) := by omega
  go_enter Try.func33, Try.ntmps33
  go_wp2_with (go_at_call 32; (with_reducible refine (kind_any _ _).mono ?_); rintro e w' ⟨rfl, rfl⟩)
  go_ret
  exact ⟨ret_int F.out.symm, rfl⟩
 ·have F : Hid (atV s i = -1) := dif_neg h
  have d : decide (s.size ≤ i) = true := decide_eq_true (by omega)
  have d' : decide ((s.size : Int) ≤ (i : Int)) = true := decide_eq_true (by omega)
  go_enter Try.func33, Try.ntmps33
  go_wp2
  go_ret
  exact ⟨ret_int F.out.symm, rfl⟩
theorem kind_aln (c : UInt8) : alnB c = (kindV c == 1 || kindV c == 2) := by
 unfold alnB kindV
 cases letB c
 ·cases digB c
  ·cases blankB c
   ·cases signB c
    ·cases markB c <;> rfl
    ·rfl
   ·rfl
  ·rfl
 ·rfl
theorem at_aln (s : ByteArray) (i : Nat) : hd alnB (s.data.toList.drop i) = (atV s i == 1 || atV s i == 2) := by
 unfold atV
 by_cases h : i < s.size
 ·rw [dif_pos h, hd_drop h, kind_aln]
 ·rw [dif_neg h, hd_end (by omega)]; rfl
set_option maxHeartbeats 4000000 in
theorem rname_any (s : ByteArray) (i : Nat) (w : World) (hs : s.size ≤ 100000) (hi : i ≤ s.size) : Calls Try.prog 34 #[.string s, .int .i64 i] w fun e w' => e = .returned (.int .i64 ((i + nmLen (s.data.toList.drop i) : Nat) : Int)) ∧ w' = w := by
 obtain ⟨n, hn⟩ : ∃ n, nmLen (s.data.toList.drop i) = n := ⟨_, rfl⟩
 have HN := Lib.hid hn
 have hbn := nm_bd s i hi
 rw [hn] at hbn ⊢
 clear hn
 go_enter Try.func34, Try.ntmps34
 go_wp2
 go_loop [1] (fun x => ∃ k : Nat, k ≤ n ∧ x = .int .i64 ((i + k : Nat) : Int)) (fun x => i + n - (intOf x).toNat)
 case atStart => exact ⟨0, by omega, rfl⟩
 case round =>
  obtain ⟨k, hk, rfl⟩ := hrel
  obtain ⟨q, hq⟩ : ∃ q, q = i + k := ⟨_, rfl⟩
  have hstep := rl_succ (p := alnB) (l := s.data.toList.drop i) (m := s.size + 1) (k := k) (by unfold rl; have := HN.out; unfold nmLen at this; rw [this]; omega)
  have hrl : rl alnB (s.data.toList.drop i) (s.size + 1) = n := by unfold rl; have := HN.out; unfold nmLen at this; rw [this]; omega
  rw [hrl, List.drop_drop, at_aln, ← hq] at hstep
  rw [← hq]
  have HQ := Lib.hid hq
  obtain ⟨a, ha⟩ : ∃ a, atV s q = a := ⟨_, rfl⟩
  rw [ha] at hstep
  have HA := Lib.hid ha
  clear hq hrl ha
  have hqb : q ≤ 100000 := by have := HQ.out; omega
  by_cases hlt : k < n
  ·have h2 := (hstep.1 hlt).2
   have hlt2 : k + 1 ≤ n := hlt
   clear hstep hlt
   cases a1 : a == 1
   ·have a2 : (a == 2) = true := by rw [a1] at h2; simpa using h2
    clear h2
    go_wp2_with (go_at_call 33; (with_reducible refine (rat_any _ _ _ hs).mono ?_); rw [HA.out]; rintro e w' ⟨rfl, rfl⟩)
    go_round
    case rel => exact ⟨k + 1, by omega, by have := HQ.out; subst this; rfl⟩
    case measure => have := HQ.out; simp [intOf]; omega
   ·clear h2
    go_wp2_with (go_at_call 33; (with_reducible refine (rat_any _ _ _ hs).mono ?_); rw [HA.out]; rintro e w' ⟨rfl, rfl⟩)
    go_round
    case rel => exact ⟨k + 1, by omega, by have := HQ.out; subst this; rfl⟩
    case measure => have := HQ.out; simp [intOf]; omega
  ·have hkn : k = n := by omega
   have h2 : (a == 1 || a == 2) = false := by
    cases hh : (a == 1 || a == 2)
    ·rfl
    ·exact absurd (hstep.2 ⟨by omega, hh⟩) hlt
   have HK := Lib.hid hkn
   clear hstep hlt hkn
   have a1 : (a == 1) = false := (Bool.or_eq_false_iff.1 h2).1
   have a2 : (a == 2) = false := (Bool.or_eq_false_iff.1 h2).2
   clear h2
   go_wp2_with (go_at_call 33; (with_reducible refine (rat_any _ _ _ hs).mono ?_); rw [HA.out]; rintro e w' ⟨rfl, rfl⟩)
   go_ret
   exact ⟨by have := HQ.out; have := HK.out; subst_vars; rfl, rfl⟩
end Go.Proofs.Ytnojndgmgkgnpaa.Lx
/- Chapter 06: a text behind its first sign. -/
namespace Go.Proofs.Ytnojndgmgkgnpaa.Lx
open Go.ChangeShapes Go.WideShapes Go.ChangeAt Go.RowKit
set_option linter.unusedVariables false
set_option linter.unusedSimpArgs false
theorem ext_list (s : ByteArray) (j r : Nat) : (s.extract j (j + r)).data.toList = (s.data.toList.drop j).take r := by
 rw [ByteArray.data_extract, Array.toList_extract, List.extract_eq_take_drop]
 congr 1; omega
def TextPost (w : World) (b : Nat) (s : ByteArray) (i : Nat) (e : Ending) (w' : World) : Prop :=
 (txt (s.data.toList.drop i) = none ∧ e = .returned (.tuple #[.string ⟨#[]⟩, .int .i64 11]) ∧ ∃ k, k ≤ s.size ∧ Went w w' b s k) ∨
 ∃ (t : Bs) (n : Nat) (T : ByteArray), txt (s.data.toList.drop i) = some (t, n) ∧ T.data.toList = t ∧ e = .returned (.tuple #[.string T, .int .i64 0]) ∧ Went w w' b s (i + n)
def TextRel (w : World) (b : Nat) (s : ByteArray) (i g : Nat) (O : ByteArray) (wr : World) : Prop :=
 ∃ j, g + j = s.size ∧ i ≤ j ∧ O.size ≤ j - i ∧ txt (s.data.toList.drop i) = (txt (s.data.toList.drop j)).map (fun x => (O.data.toList ++ x.1, x.2 + (j - i))) ∧ Went w wr b s j
end Go.Proofs.Ytnojndgmgkgnpaa.Lx
/- Chapter 06: a number. -/
namespace Go.Proofs.Ytnojndgmgkgnpaa.Lx
open Go.ChangeShapes Go.WideShapes Go.ChangeAt Go.RowKit
set_option linter.unusedVariables false
set_option linter.unusedSimpArgs false
theorem At.lt {w : World} {b : Nat} {s : ByteArray} {i : Nat} (h : At w b s i) : b < w.heap.size := cell_lt h.c0
theorem At.alloc {w : World} {b : Nat} {s : ByteArray} {i : Nat} (h : At w b s i) (o : Obj) : At (w.alloc o) b s i := by
 have hl := h.lt
 exact ⟨by rw [World.cell?_alloc_old _ _ _ (Nat.ne_of_lt hl)]; exact h.c0, by rw [World.cell?_alloc_old _ _ _ (Nat.ne_of_lt hl)]; exact h.c1, by rw [World.frozen?_alloc_old _ _ _ (Nat.ne_of_lt hl)]; exact h.f1⟩
theorem Went.alloc {w w' : World} {b : Nat} {s : ByteArray} {i : Nat} (h : Went w w' b s i) (o : Obj) : Went w (w'.alloc o) b s i := ⟨h.at_.alloc o, h.grown.trans (World.grownBy_alloc _ _ _)⟩
def NumPost (w : World) (b : Nat) (s : ByteArray) (i : Nat) (e : Ending) (w' : World) : Prop :=
 (numV (s.data.toList.drop i) 0 = none ∧ e = .returned (.tuple #[.int .i64 0, .int .i64 2]) ∧ ∃ k, k ≤ s.size ∧ Went w w' b s k) ∨
 ∃ v, numV (s.data.toList.drop i) 0 = some v ∧ e = .returned (.tuple #[.int .i64 v, .int .i64 0]) ∧ Went w w' b s (i + digLen (s.data.toList.drop i))
theorem numV_step {c : UInt8} {r : Bs} {v : Int} (h : digB c = true) : numV (c :: r) v = if v * 10 + ((c.toNat : Int) - 48) > big then none else numV r (v * 10 + ((c.toNat : Int) - 48)) := by
 rw [numV, if_pos h]
end Go.Proofs.Ytnojndgmgkgnpaa.Lx
/- Chapter 06: a symbol. -/
namespace Go.Proofs.Ytnojndgmgkgnpaa.Lx
open Go.ChangeShapes Go.WideShapes Go.ChangeAt Go.RowKit
set_option linter.unusedVariables false
set_option linter.unusedSimpArgs false
def bSigns : ByteArray := ⟨#[43, 45, 42, 47, 60, 62, 61, 126, 44, 64, 38, 37]⟩
def bMarks : ByteArray := ⟨#[94, 46, 59, 40, 41, 91, 93, 124]⟩
def bBlanks : ByteArray := ⟨#[9, 10, 13, 32]⟩
def SymPost (w : World) (b : Nat) (s : ByteArray) (i : Nat) (e : Ending) (w' : World) : Prop :=
 (∃ x, symV (s.data.toList.drop i) = .err x ∧ (x = 10 ∨ x = 12) ∧ e = .returned (.tuple #[.string ⟨#[]⟩, .int .i64 x]) ∧ ∃ k, k ≤ s.size ∧ Went w w' b s k) ∨
 ∃ (t : Bs) (n : Nat) (T : ByteArray), symV (s.data.toList.drop i) = .ok t n ∧ T.data.toList = t ∧ e = .returned (.tuple #[.string T, .int .i64 0]) ∧ Went w w' b s (i + n)
theorem sym_sign {l : Bs} (h : hd signB l = true) : symV l = .ok (l.take (sgLen l)) (sgLen l) := by unfold symV; rw [if_pos h]
theorem sym_none {l : Bs} (h : hd signB l = false) (h' : hd letB l = false) : symV l = .err 10 := by unfold symV; rw [if_neg (by simp [h]), if_neg (by simp [h'])]
theorem sym_long {l : Bs} (h : hd signB l = false) (h' : hd letB l = true) (h24 : nmLen l > 24) : symV l = .err 12 := by unfold symV; rw [if_neg (by simp [h]), if_pos h', if_pos h24]
theorem sym_name {l : Bs} (h : hd signB l = false) (h' : hd letB l = true) (h24 : ¬ nmLen l > 24) (hc : colonB (l.drop (nmLen l)) = false) : symV l = .ok (l.take (nmLen l)) (nmLen l) := by
 unfold symV; rw [if_neg (by simp [h]), if_pos h', if_neg h24, if_neg (by simp [hc])]
theorem sym_kw {l : Bs} (h : hd signB l = false) (h' : hd letB l = true) (h24 : ¬ nmLen l > 24) (hc : colonB (l.drop (nmLen l)) = true) : symV l = match kws l.length (l.drop (nmLen l + 1)) with
   | none => .err 12
   | some k => .ok (l.take (nmLen l + 1 + k)) (nmLen l + 1 + k) := by
 unfold symV; rw [if_neg (by simp [h]), if_pos h', if_neg h24, if_pos hc]
 all_goals (cases kws l.length (l.drop (nmLen l + 1)) <;> rfl)
end Go.Proofs.Ytnojndgmgkgnpaa.Lx
/- Chapter 06: a symbol that is no sign. -/
namespace Go.Proofs.Ytnojndgmgkgnpaa.Lx
open Go.ChangeShapes Go.WideShapes Go.ChangeAt Go.RowKit
set_option linter.unusedVariables false
set_option linter.unusedSimpArgs false
/-- where a symbol's keywords stand -/
def SymRel (w : World) (b : Nat) (s : ByteArray) (i g : Nat) (O : ByteArray) (wr : World) : Prop :=
 ∃ j, g + j = s.size ∧ i ≤ j ∧ O.data.toList = (s.data.toList.drop i).take (j - i) ∧ O.size ≤ 100000 ∧
  symV (s.data.toList.drop i) = (match kws (s.size + 1) (s.data.toList.drop j) with | none => Took.err 12 | some k => Took.ok ((s.data.toList.drop i).take (j - i + k)) (j - i + k)) ∧ Went w wr b s j
theorem kws_some {f : Nat} {l : Bs} (h : ¬ (hd letB l = true ∧ colonB (l.drop (nmLen l)) = true)) : kws (f + 1) l = some 0 := by
 unfold kws; rw [if_neg (by simpa using h)]
theorem kws_none {f : Nat} {l : Bs} (h1 : hd letB l = true) (h2 : colonB (l.drop (nmLen l)) = true) (h : nmLen l > 24) : kws (f + 1) l = none := by
 unfold kws; rw [if_pos (by simp [h1, h2]), if_pos h]
theorem kws_more {f : Nat} {l : Bs} (h1 : hd letB l = true) (h2 : colonB (l.drop (nmLen l)) = true) (h : ¬ nmLen l > 24) (hl : l.length ≤ f) : kws (f + 1) l = (kws (f + 1) (l.drop (nmLen l + 1))).map (· + (nmLen l + 1)) := by
 have hc := colonB_lt h2
 simp only [List.length_drop] at hc
 rw [kws_fuel (f + 1) f (l.drop (nmLen l + 1)) (by simp; omega) (by simp; omega)]
 rw [kws, if_pos (by simp [h1, h2]), if_neg h]
theorem take_more {l : Bs} {a n : Nat} {c : UInt8} (h : hd (· == c) (l.drop (a + n)) = true) : l.take a ++ ((l.drop a).take n ++ [c]) = l.take (a + n + 1) := by
 have e : l.drop (a + n) = c :: l.drop (a + n + 1) := by
  cases hl : l.drop (a + n) with
  | nil => rw [hl] at h; cases h
  | cons d r =>
   rw [hl] at h
   have : d = c := by simpa [hd] using h
   rw [this, ← List.drop_drop, hl]; rfl
 rw [show a + n + 1 = a + (n + 1) by omega, List.take_add, List.take_add, List.drop_drop, e]
 simp
end Go.Proofs.Ytnojndgmgkgnpaa.Lx
/- Chapter 06: a token: its cases. -/
namespace Go.Proofs.Ytnojndgmgkgnpaa.Lx
open Go.ChangeShapes Go.WideShapes Go.ChangeAt Go.RowKit
set_option linter.unusedVariables false
set_option linter.unusedSimpArgs false
theorem grown_alloc {w c : World} {r : Option Nat} (h : w.grownBy c r) (o : Obj) : w.grownBy (c.alloc o) r := h.trans (World.grownBy_alloc _ _ _)
theorem grown_setOwn {w c : World} {r : Option Nat} (h : w.grownBy c r) {k o : Nat} (hk : w.heap.size ≤ k) (v : Value) : w.grownBy (c.setCell ⟨k, o, none⟩ v) r :=
 ⟨h.os, h.tape, h.output, by simpa using h.size, fun j hj hne => (heap_setCell_other c ⟨k, o, none⟩ j v (fun e => by simp at e; omega)).trans (h.block j hj hne)⟩
theorem Went.far {w w' : World} {b : Nat} {s : ByteArray} {i : Nat} (h : Went w w' b s i) {k : Nat} (hk : k < w.heap.size) (hne : k ≠ b) :
  (∀ o, w'.cell? ⟨k, o, none⟩ = w.cell? ⟨k, o, none⟩) ∧ (∀ o, w'.frozen? ⟨k, o, none⟩ = w.frozen? ⟨k, o, none⟩) ∧ k < w'.heap.size :=
 ⟨fun o => World.cell?_of_block (h.grown.block k hk (by simpa using hne)), fun o => World.frozen?_of_block (h.grown.block k hk (by simpa using hne)), Nat.lt_of_lt_of_le hk h.grown.size⟩
/-- what a token's taking comes to -/
def TokPost (w : World) (b : Nat) (s : ByteArray) (i : Nat) (e : Ending) (w' : World) : Prop :=
 (∃ x, tokV (s.data.toList.drop i) = .err x ∧ x ≠ 0 ∧ ∃ (k1 : Int) (k2 : ByteArray) (k3 : Int), e = .returned (.tuple #[.agg #[.int .i64 k1, .string k2, .int .i64 k3, .int .i64 i], .int .i64 x]) ∧ ∃ k, k ≤ s.size ∧ Went w w' b s k) ∨
 ∃ (t : Tok) (n : Nat) (T : ByteArray), tokV (s.data.toList.drop i) = .ok t n ∧ T.data.toList = t.text ∧ e = .returned (.tuple #[.agg #[.int .i64 t.kind, .string T, .int .i64 t.num, .int .i64 i], .int .i64 0]) ∧ Went w w' b s (i + n)
theorem byte_cons {s : ByteArray} {i : Nat} (h : i < s.size) : s.data.toList.drop i = byteU s i :: s.data.toList.drop (i + 1) := by
 unfold byteU; rw [dif_pos h, List.drop_eq_getElem_cons (by simpa using h)]; rfl

end Go.Proofs.Ytnojndgmgkgnpaa.Lx
/- Chapter 06: contracts of the reference: colons; blanks and remarks. -/
namespace Go.Proofs.Ytnojndgmgkgnpaa.Lx
open Go.ChangeShapes Go.WideShapes Go.ChangeAt Go.RowKit
set_option linter.unusedVariables false
set_option linter.unusedSimpArgs false
theorem byteU_lt {s : ByteArray} {i : Nat} (h : i < s.size) : byteU s i = s[i] := by unfold byteU; rw [dif_pos h]
theorem byteU_ge {s : ByteArray} {i : Nat} (h : s.size ≤ i) : byteU s i = 0 := by unfold byteU; rw [dif_neg (by omega)]
set_option maxHeartbeats 4000000 in
theorem rcolon_any (s : ByteArray) (i : Nat) (w : World) (hs : s.size ≤ 100000) : Calls Try.prog 35 #[.string s, .int .i64 i] w fun e w' => e = .returned (.bool (colonB (s.data.toList.drop i))) ∧ w' = w := by
 have E := Lib.hid (colon_eq s i)
 have b0 : (0 : Int) ≤ (i : Int) := by omega
 have b0' : (0 : Int) ≤ (i : Int) + 1 := by omega
 by_cases h0 : i < s.size
 ·have d0 : decide (i < s.size) = true := decide_eq_true h0
  have b1 : (i : Int) < (s.size : Int) := by omega
  obtain ⟨x, hx⟩ : ∃ x, s[i] = x := ⟨_, rfl⟩
  have HX : Hid (byteU s i = x) := (byteU_lt h0).trans hx
  have e58 := u8_eq x 58 (by omega)
  cases q58 : x == UInt8.ofNat 58
  ·rw [q58] at e58
   have n58 : ((x.toNat : Int) == 58) = false := e58
   have F : Hid (colonB (s.data.toList.drop i) = false) := by show _ = _; rw [E.out, HX.out, show (x == 58) = false from q58]; rfl
   clear e58 q58
   go_enter Try.func35, Try.ntmps35
   go_wp2
   go_ret
   exact ⟨ret_bool F.out.symm, rfl⟩
  ·rw [q58] at e58
   have n58 : ((x.toNat : Int) == 58) = true := e58
   by_cases h1 : i + 1 < s.size
   ·have d1 : decide (i + 1 < s.size) = true := decide_eq_true h1
    have d1' : decide ((i : Int) + 1 < (s.size : Int)) = true := decide_eq_true (by omega)
    have b2 : (i : Int) + 1 < (s.size : Int) := by omega
    obtain ⟨y, hy⟩ : ∃ y, s[i + 1] = y := ⟨_, rfl⟩
    have HY : Hid (byteU s (i + 1) = y) := (byteU_lt h1).trans hy
    have e61 := u8_eq y 61 (by omega)
    cases q61 : y == UInt8.ofNat 61
    ·rw [q61] at e61
     have n61 : ((y.toNat : Int) == 61) = false := e61
     have F : Hid (colonB (s.data.toList.drop i) = true) := by show _ = _; rw [E.out, HX.out, HY.out, show (x == 58) = true from q58, show (y == 61) = false from q61]; rfl
     clear e58 q58 e61 q61
     go_enter Try.func35, Try.ntmps35
     go_wp2
     go_ret
     exact ⟨ret_bool F.out.symm, rfl⟩
    ·rw [q61] at e61
     have n61 : ((y.toNat : Int) == 61) = true := e61
     have F : Hid (colonB (s.data.toList.drop i) = false) := by show _ = _; rw [E.out, HX.out, HY.out, show (x == 58) = true from q58, show (y == 61) = true from q61]; rfl
     clear e58 q58 e61 q61
     go_enter Try.func35, Try.ntmps35
     go_wp2
     go_ret
     exact ⟨ret_bool F.out.symm, rfl⟩
   ·have d1 : decide (i + 1 < s.size) = false := decide_eq_false h1
    have d1' : decide ((i : Int) + 1 < (s.size : Int)) = false := decide_eq_false (by omega)
    have F : Hid (colonB (s.data.toList.drop i) = true) := by show _ = _; rw [E.out, HX.out, byteU_ge (by omega), show (x == 58) = true from q58]; rfl
    clear e58 q58
    go_enter Try.func35, Try.ntmps35
    go_wp2
    go_ret
    exact ⟨ret_bool F.out.symm, rfl⟩
 ·have d0 : decide (i < s.size) = false := decide_eq_false h0
  have d0' : decide ((i : Int) < (s.size : Int)) = false := decide_eq_false (by omega)
  have F : Hid (colonB (s.data.toList.drop i) = false) := by show _ = _; rw [E.out, byteU_ge (by omega)]; rfl
  go_enter Try.func35, Try.ntmps35
  go_wp2
  go_ret
  exact ⟨ret_bool F.out.symm, rfl⟩
theorem ret_ib {a b : Int} {p q : Bool} (h : a = b) (h' : p = q) : Ending.returned (.tuple #[.int .i64 a, .bool p]) = .returned (.tuple #[.int .i64 b, .bool q]) := by rw [h, h']
theorem kind_blank (c : UInt8) : (kindV c == 5) = blankB c := by
 unfold kindV
 cases hl : letB c
 ·cases hd : digB c
  ·cases hb : blankB c
   ·cases signB c
    ·cases markB c <;> rfl
    ·rfl
   ·rfl
  ·cases hb : blankB c
   ·rfl
   ·simp [blankB] at hb
    rcases hb with ((rfl | rfl) | rfl) | rfl <;> revert hd <;> decide
 ·cases hb : blankB c
  ·rfl
  ·simp [blankB] at hb
   rcases hb with ((rfl | rfl) | rfl) | rfl <;> revert hl <;> decide
set_option maxHeartbeats 8000000 in
theorem rskip_any (s : ByteArray) (i : Nat) (w : World) (hs : s.size ≤ 100000) (hi : i ≤ s.size) :
  Calls Try.prog 20 #[.string s, .int .i64 i] w fun e w' => e = .returned (.tuple #[.int .i64 ((i + (skipV (s.data.toList.drop i)).1 : Nat) : Int), .bool (skipV (s.data.toList.drop i)).2]) ∧ w' = w := by
 obtain ⟨⟨n, op⟩, hn⟩ : ∃ z, skipV (s.data.toList.drop i) = z := ⟨_, rfl⟩
 rw [hn]
 have HN := Lib.hid hn
 clear hn
 go_enter Try.func20, Try.ntmps20
 go_wp2
 go_loop [1] (fun x => ∃ j : Nat, j ≤ s.size ∧ i ≤ j ∧ x = .int .i64 j ∧ (n, op) = ((skipV (s.data.toList.drop j)).1 + (j - i), (skipV (s.data.toList.drop j)).2)) (fun x => s.size - (intOf x).toNat)
 case atStart => exact ⟨i, hi, Nat.le_refl _, rfl, by rw [HN.out]; simp⟩
 case round =>
  obtain ⟨j, hj, hij, rfl, hrel⟩ := hrel
  have HR := Lib.hid hrel
  clear hrel
  by_cases h0 : j < s.size
  ·have d0 : decide (j < s.size) = true := decide_eq_true h0
   have b0 : (0 : Int) ≤ (j : Int) := by omega
   have b1 : (j : Int) < (s.size : Int) := by omega
   have hcons := byte_cons h0
   rw [byteU_lt h0] at hcons
   obtain ⟨x, hx⟩ : ∃ x, s[j] = x := ⟨_, rfl⟩
   rw [hx] at hcons
   have HC := Lib.hid hcons
   have HS := Lib.hid (skip_cons x (s.data.toList.drop (j + 1)))
   have kb := kind_blank x
   clear hcons
   cases hb : blankB x
   ·rw [hb] at kb
    have e34 := u8_ne x 34 (by omega)
    cases q34 : x == UInt8.ofNat 34
    ·rw [q34] at e34
     have n34 : ((x.toNat : Int) != 34) = true := e34
     have F : Hid (skipV (s.data.toList.drop j) = (0, false)) := by show _ = _; rw [HC.out, HS.out, if_neg (by simp [hb]), if_neg (by rw [show (x == 34) = false from q34]; simp)]
     clear e34 q34 hb
     go_wp2_with (go_at_call 32; (with_reducible refine (kind_any _ _).mono ?_); rintro e w' ⟨rfl, rfl⟩)
     go_ret2
     have h2 := HR.out
     rw [F.out] at h2
     obtain ⟨h3, h4⟩ := Prod.mk.inj h2
     simp only at h3 h4
     subst h4
     exact ⟨ret_ib (by show (j : Int) = _; omega) rfl, rfl⟩
    ·rw [q34] at e34
     have n34 : ((x.toNat : Int) != 34) = false := e34
     have hx34 : x = 34 := by simpa using q34
     have F : Hid (∀ k, remV (s.data.toList.drop (j + 1)) = some k → skipV (s.data.toList.drop j) = ((skipV (s.data.toList.drop (j + 1 + (k + 1)))).1 + (k + 2), (skipV (s.data.toList.drop (j + 1 + (k + 1)))).2)) := fun k hk => by
      rw [HC.out, HS.out, if_neg (by simp [hb]), if_pos (by rw [hx34]; rfl), hk]
      simp only [List.drop_drop]
     have F0 : Hid (remV (s.data.toList.drop (j + 1)) = none → skipV (s.data.toList.drop j) = (0, true)) := fun hk => by
      rw [HC.out, HS.out, if_neg (by simp [hb]), if_pos (by rw [hx34]; rfl), hk]
     clear e34 q34 hb hx34
     go_wp2_with (go_at_call 32; (with_reducible refine (kind_any _ _).mono ?_); rintro e w' ⟨rfl, rfl⟩)
     go_loop [6] (fun x => ∃ e : Nat, j + 1 ≤ e ∧ e ≤ s.size ∧ x = .int .i64 e ∧ remV (s.data.toList.drop (j + 1)) = (remV (s.data.toList.drop e)).map (· + (e - (j + 1)))) (fun x => s.size - (intOf x).toNat)
     case atStart => exact ⟨j + 1, Nat.le_refl _, by omega, by go_num, by cases remV (s.data.toList.drop (j + 1)) <;> simp⟩
     case round =>
      obtain ⟨e, he1, he2, rfl, hre⟩ := hrel
      have HRE := Lib.hid hre
      clear hre
      have g0 : (0 : Int) ≤ (e : Int) := by omega
      by_cases h1 : e < s.size
      ·have d1 : decide (e < s.size) = true := decide_eq_true h1
       have g1 : (e : Int) < (s.size : Int) := by omega
       have hcons := byte_cons h1
       rw [byteU_lt h1] at hcons
       obtain ⟨y, hy⟩ : ∃ y, s[e] = y := ⟨_, rfl⟩
       rw [hy] at hcons
       have HCE := Lib.hid hcons
       clear hcons
       have z34 := u8_ne y 34 (by omega)
       have ne1 : ((e : Int) == (s.size : Int)) = false := by simp; omega
       have ne2 : (e == s.size) = false := by simp; omega
       cases q35 : y == UInt8.ofNat 34
       ·rw [q35] at z34
        have m34 : ((y.toNat : Int) != 34) = true := z34
        have hrem : Hid (remV (s.data.toList.drop e) = (remV (s.data.toList.drop (e + 1))).map (· + 1)) := by show _ = _; rw [HCE.out, remV, if_neg (by rw [show (y == 34) = false from q35]; simp)]
        clear z34 q35
        go_wp2
        go_round
        case rel =>
         refine ⟨e + 1, by omega, by omega, by go_num, ?_⟩
         rw [HRE.out, hrem.out]
         cases remV (s.data.toList.drop (e + 1)) with
         | none => rfl
         | some k => simp; omega
        case measure => simp [intOf]; omega
       ·rw [q35] at z34
        have m34 : ((y.toNat : Int) != 34) = false := z34
        have hrem : Hid (remV (s.data.toList.drop (j + 1)) = some (e - (j + 1))) := by show _ = _; rw [HRE.out, HCE.out, remV, if_pos (by simpa using q35)]; simp
        clear z34 q35
        go_wp2
        go_round
        case rel =>
         refine ⟨e + 1, by omega, by omega, by go_num, ?_⟩
         rw [HR.out, F.out _ hrem.out, show j + 1 + (e - (j + 1) + 1) = e + 1 by omega]
         simp only [Prod.mk.injEq, and_true]; omega
        case measure => simp [intOf]; omega
      ·have d1 : decide (e < s.size) = false := decide_eq_false h1
       have d1' : decide ((e : Int) < (s.size : Int)) = false := decide_eq_false (by omega)
       have ne1 : ((e : Int) == (s.size : Int)) = true := by simp; omega
       have ne2 : (e == s.size) = true := by simp; omega
       have hrem : Hid (remV (s.data.toList.drop (j + 1)) = none) := by show _ = _; rw [HRE.out, List.drop_eq_nil_of_le (by simpa using h1)]; rfl
       go_wp2
       go_ret2
       have h2 := HR.out
       rw [F0.out hrem.out] at h2
       obtain ⟨h3, h4⟩ := Prod.mk.inj h2
       simp only at h3 h4
       subst h4
       exact ⟨ret_ib (by show (j : Int) = _; omega) rfl, rfl⟩
   ·rw [hb] at kb
    have F : Hid (skipV (s.data.toList.drop j) = ((skipV (s.data.toList.drop (j + 1))).1 + 1, (skipV (s.data.toList.drop (j + 1))).2)) := by show _ = _; rw [HC.out, HS.out, if_pos hb]
    clear hb
    go_wp2_with (go_at_call 32; (with_reducible refine (kind_any _ _).mono ?_); rintro e w' ⟨rfl, rfl⟩)
    go_round
    case rel => exact ⟨j + 1, by omega, by omega, by go_num, by rw [HR.out, F.out]; simp; omega⟩
    case measure => simp [intOf]; omega
  ·have d0 : decide (j < s.size) = false := decide_eq_false h0
   have d0' : decide ((j : Int) < (s.size : Int)) = false := decide_eq_false (by omega)
   have F : Hid (skipV (s.data.toList.drop j) = (0, false)) := by show _ = _; rw [List.drop_eq_nil_of_le (by simpa using h0)]; rfl
   go_wp2
   go_ret2
   have h2 := HR.out
   rw [F.out] at h2
   obtain ⟨h3, h4⟩ := Prod.mk.inj h2
   simp only at h3 h4
   subst h4
   exact ⟨ret_ib (by show (j : Int) = _; omega) rfl, rfl⟩
end Go.Proofs.Ytnojndgmgkgnpaa.Lx
/- Chapter 06: the reference's text. -/
namespace Go.Proofs.Ytnojndgmgkgnpaa.Lx
open Go.ChangeShapes Go.WideShapes Go.ChangeAt Go.RowKit
set_option linter.unusedVariables false
set_option linter.unusedSimpArgs false
/-- a token's own box, and the one of the answer behind it -/
structure Boxed (w wr : World) (K : Int) (O : ByteArray) (N : Int) (i : Nat) : Prop where
 c0 : wr.cell? ⟨w.heap.size, 0, none⟩ = some (.int .i64 K)
 c1 : wr.cell? ⟨w.heap.size, 1, none⟩ = some (.string O)
 c2 : wr.cell? ⟨w.heap.size, 2, none⟩ = some (.int .i64 N)
 c3 : wr.cell? ⟨w.heap.size, 3, none⟩ = some (.int .i64 i)
 r0 : wr.cell? ⟨w.heap.size + 1, 0, none⟩ = some (.int .i64 0)
 r1 : wr.cell? ⟨w.heap.size + 1, 1, none⟩ = some (.string ⟨#[]⟩)
 r2 : wr.cell? ⟨w.heap.size + 1, 2, none⟩ = some (.int .i64 0)
 r3 : wr.cell? ⟨w.heap.size + 1, 3, none⟩ = some (.int .i64 0)
 f1 : wr.frozen? ⟨w.heap.size, 1, none⟩ = false
 g0 : wr.frozen? ⟨w.heap.size + 1, 0, none⟩ = false
 g1 : wr.frozen? ⟨w.heap.size + 1, 1, none⟩ = false
 g2 : wr.frozen? ⟨w.heap.size + 1, 2, none⟩ = false
 g3 : wr.frozen? ⟨w.heap.size + 1, 3, none⟩ = false
 sz : w.heap.size + 2 ≤ wr.heap.size
 grown : w.grownBy wr none
theorem txt_plain {x : UInt8} (h : (x == 39) = false) (l : Bs) : txt (x :: l) = (txt l).map (fun z => (x :: z.1, z.2 + 1)) := by
 cases l with
 | nil => simp only [txt, h]; rfl
 | cons d r => rw [txt, if_neg (by simp [h])]
theorem txt_two {l : Bs} (h : hd (· == 39) l = true) : txt (39 :: l) = (txt (l.drop 1)).map (fun z => (39 :: z.1, z.2 + 2)) := by
 cases l with
 | nil => cases h
 | cons d r => rw [txt, if_pos (by decide), if_pos (show (d == 39) = true from h)]; rfl
theorem txt_end {l : Bs} (h : hd (· == 39) l = false) : txt (39 :: l) = some ([], 1) := by
 cases l with
 | nil => rfl
 | cons d r => rw [txt, if_pos (by decide), if_neg (by simpa [hd] using h)]
theorem one_byte {s : ByteArray} {j : Nat} (h : j < s.size) {t : ByteArray} (ht : s.extract j (j + 1) = t) : t.data.toList = [s[j]] := by
 rw [← ht, ext_list, byte_cons h, byteU_lt h]; rfl
theorem Boxed.put {w wr : World} {K : Int} {O : ByteArray} {N : Int} {i : Nat} (h : Boxed w wr K O N i) (O' : ByteArray) : Boxed w ((wr.setCell ⟨w.heap.size, 1, none⟩ (.string O')).drew) K O' N i where
 c0 := (World.cell?_setCell_other _ _ _ _ (by simp)).trans h.c0
 c1 := World.cell?_setCell_same _ _ _ h.c1
 c2 := (World.cell?_setCell_other _ _ _ _ (by simp)).trans h.c2
 c3 := (World.cell?_setCell_other _ _ _ _ (by simp)).trans h.c3
 r0 := (World.cell?_setCell_other _ _ _ _ (by simp)).trans h.r0
 r1 := (World.cell?_setCell_other _ _ _ _ (by simp)).trans h.r1
 r2 := (World.cell?_setCell_other _ _ _ _ (by simp)).trans h.r2
 r3 := (World.cell?_setCell_other _ _ _ _ (by simp)).trans h.r3
 f1 := (World.frozen?_setCell _ _ _ _).trans h.f1
 g0 := (World.frozen?_setCell _ _ _ _).trans h.g0
 g1 := (World.frozen?_setCell _ _ _ _).trans h.g1
 g2 := (World.frozen?_setCell _ _ _ _).trans h.g2
 g3 := (World.frozen?_setCell _ _ _ _).trans h.g3
 sz := by have := h.sz; simpa using this
 grown := grown_drewN (grown_setOwn h.grown (Nat.le_refl _) _) 1
theorem Boxed.put' {w wr : World} {K : Int} {O : ByteArray} {N : Int} {i : Nat} (h : Boxed w wr K O N i) (O' : ByteArray) : Boxed w (wr.setCell ⟨w.heap.size, 1, none⟩ (.string O')) K O' N i where
 c0 := (World.cell?_setCell_other _ _ _ _ (by simp)).trans h.c0
 c1 := World.cell?_setCell_same _ _ _ h.c1
 c2 := (World.cell?_setCell_other _ _ _ _ (by simp)).trans h.c2
 c3 := (World.cell?_setCell_other _ _ _ _ (by simp)).trans h.c3
 r0 := (World.cell?_setCell_other _ _ _ _ (by simp)).trans h.r0
 r1 := (World.cell?_setCell_other _ _ _ _ (by simp)).trans h.r1
 r2 := (World.cell?_setCell_other _ _ _ _ (by simp)).trans h.r2
 r3 := (World.cell?_setCell_other _ _ _ _ (by simp)).trans h.r3
 f1 := (World.frozen?_setCell _ _ _ _).trans h.f1
 g0 := (World.frozen?_setCell _ _ _ _).trans h.g0
 g1 := (World.frozen?_setCell _ _ _ _).trans h.g1
 g2 := (World.frozen?_setCell _ _ _ _).trans h.g2
 g3 := (World.frozen?_setCell _ _ _ _).trans h.g3
 sz := by have := h.sz; simpa using this
 grown := grown_setOwn h.grown (Nat.le_refl _) _
def RTextRel (w : World) (s : ByteArray) (K N : Int) (i g : Nat) (o : Value) (wr : World) : Prop :=
 ∃ (j : Nat) (O : ByteArray), o = .int .i64 j ∧ g + j = s.size ∧ i + 1 ≤ j ∧ O.size ≤ j - (i + 1) ∧ txt (s.data.toList.drop (i + 1)) = (txt (s.data.toList.drop j)).map (fun x => (O.data.toList ++ x.1, x.2 + (j - (i + 1)))) ∧ Boxed w wr K O N i
def RTextPost (w : World) (s : ByteArray) (K N : Int) (i : Nat) (e : Ending) (w' : World) : Prop := w.grownBy w' none ∧
 ((txt (s.data.toList.drop (i + 1)) = none ∧ ∃ T, e = .returned (.tuple #[.agg #[.int .i64 K, .string T, .int .i64 N, .int .i64 i], .int .i64 0, .int .i64 11])) ∨
   ∃ (t : Bs) (n : Nat) (T : ByteArray), txt (s.data.toList.drop (i + 1)) = some (t, n) ∧ T.data.toList = t ∧ e = .returned (.tuple #[.agg #[.int .i64 K, .string T, .int .i64 N, .int .i64 i], .int .i64 ((i + 1 + n : Nat) : Int), .int .i64 0]))
set_option maxHeartbeats 4000000 in
theorem rtext_any (s : ByteArray) (i : Nat) (K N : Int) (w : World) (hs : s.size ≤ 100000) (hi : i + 1 ≤ s.size) :
  Calls Try.prog 36 #[.string s, .agg #[.int .i64 K, .string ⟨#[]⟩, .int .i64 N, .int .i64 i]] w (RTextPost w s K N i) := by
 go_enter Try.func36, Try.ntmps36
 go_wp2
 go_loopg [7] (s.size - (i + 1)) (fun g o wr => RTextRel w s K N i g o wr)
 case atStart =>
  refine ⟨i + 1, ⟨#[]⟩, by go_num, by omega, by omega, Nat.zero_le _, ?_, ?_⟩
  ·cases txt (s.data.toList.drop (i + 1)) with
   | none => rfl
   | some z => simp
  ·exact { c0 := by (first | assumption | (simp [go_sem]; done) | (simp [go_sem, *]; done)), c1 := by (first | assumption | (simp [go_sem]; done) | (simp [go_sem, *]; done)), c2 := by (first | assumption | (simp [go_sem]; done) | (simp [go_sem, *]; done)), c3 := by (first | assumption | (simp [go_sem]; done) | (simp [go_sem, *]; done)), r0 := by (first | assumption | (simp [go_sem]; done) | (simp [go_sem, *]; done)), r1 := by (first | assumption | (simp [go_sem]; done) | (simp [go_sem, *]; done)), r2 := by (first | assumption | (simp [go_sem]; done) | (simp [go_sem, *]; done)), r3 := by (first | assumption | (simp [go_sem]; done) | (simp [go_sem, *]; done)), f1 := by (first | assumption | (simp [go_sem]; done) | (simp [go_sem, *]; done)), g0 := by (first | assumption | (simp [go_sem]; done) | (simp [go_sem, *]; done)), g1 := by (first | assumption | (simp [go_sem]; done) | (simp [go_sem, *]; done)), g2 := by (first | assumption | (simp [go_sem]; done) | (simp [go_sem, *]; done)), g3 := by (first | assumption | (simp [go_sem]; done) | (simp [go_sem, *]; done)), sz := by go_size, grown := grown_alloc (grown_alloc (World.grownBy.refl _ _) _) _ }
 case round =>
  obtain ⟨j, O, rfl, hg, hij, hO, htx, hB⟩ := hrel
  have HTX := Lib.hid htx
  have HG := Lib.hid hg
  have HB := Lib.hid hB
  clear htx hg hB
  have B := HB.out
  obtain ⟨c0, c1, c2, c3, r0, r1, r2, r3, hfr, g0, g1, g2, g3, sz, grown⟩ := B
  by_cases hjs : j < s.size
  ·have d0 : decide (j < s.size) = true := decide_eq_true hjs
   have b0 : (0 : Int) ≤ (j : Int) := by omega
   have b1 : (j : Int) < (s.size : Int) := by omega
   obtain ⟨x, hx⟩ : ∃ x, s[j] = x := ⟨_, rfl⟩
   have e39 := u8_ne x 39 (by omega)
   cases q39 : x == UInt8.ofNat 39
   ·rw [q39] at e39
    have n39 : ((x.toNat : Int) != 39) = true := e39
    have Q39 : Hid ((x == 39) = false) := q39
    clear e39 q39
    have e1 : IntKind.i64.wrap ((j : Int) + 1) = (j : Int) + 1 := IntWalk.i64_in _ (by omega)
    have b2 : (j : Int) + 1 ≤ (s.size : Int) := by omega
    have b3 : (0 : Int) ≤ (j : Int) + 1 := by omega
    have b4 : j + 1 ≤ s.size := by omega
    have b5 : (j : Int) ≤ (j : Int) + 1 := by omega
    have b6 : j ≤ j + 1 := by omega
    have b7 : (j : Int) + 1 = ((j + 1 : Nat) : Int) := by omega
    have b8 : ((j : Int) + 1).toNat = j + 1 := by omega
    have b9 : j ≤ s.size := by omega
    have b10 : (j : Int) ≤ (s.size : Int) := by omega
    clear b7
    have hcat : O.size + 1 ≤ 100000 := by omega
    have hz : (s.extract j (j + 1)).size = 1 := size_ext s j 1 (by omega)
    obtain ⟨t, ht⟩ : ∃ t, s.extract j (j + 1) = t := ⟨_, rfl⟩
    rw [ht] at hz
    have HL := Lib.hid (one_byte hjs ht)
    have HC := Lib.hid (byte_cons hjs)
    have HU := Lib.hid (byteU_lt hjs)
    go_wp2
    go_region
    go_wp2
    go_roundg (gk - 1)
    case measure => have h2 := HG.out; omega
    case rel =>
     have h2 := HG.out
     refine ⟨j + 1, O ++ t, rfl, by omega, by omega, by simp; omega, ?_, HB.out.put _⟩
     rw [HTX.out, HC.out, HU.out, hx, txt_plain Q39.out]
     have h3 := HL.out
     cases txt (s.data.toList.drop (j + 1)) with
     | none => rfl
     | some z => simp [h3, hx]; omega
   ·rw [q39] at e39
    have n39 : ((x.toNat : Int) != 39) = false := e39
    have Q39 : Hid (x = 39) := by show _ = _; simpa using q39
    clear e39 q39
    have HC := Lib.hid (byte_cons hjs)
    have HU := Lib.hid (byteU_lt hjs)
    have HH := Lib.hid (hd_byte (p := (· == 39)) rfl s (j + 1))
    have b3 : (0 : Int) ≤ (j : Int) + 1 := by omega
    by_cases h1 : j + 1 < s.size
    ·have d1 : decide (j + 1 < s.size) = true := decide_eq_true h1
     have d1' : decide ((j : Int) + 1 < (s.size : Int)) = true := decide_eq_true (by omega)
     have b2 : (j : Int) + 1 < (s.size : Int) := by omega
     obtain ⟨y, hy⟩ : ∃ y, s[j + 1] = y := ⟨_, rfl⟩
     have HY : Hid (byteU s (j + 1) = y) := (byteU_lt h1).trans hy
     have z39 := u8_eq y 39 (by omega)
     cases q40 : y == UInt8.ofNat 39
     ·rw [q40] at z39
      have m39 : ((y.toNat : Int) == 39) = false := z39
      have F : Hid (hd (· == 39) (s.data.toList.drop (j + 1)) = false) := by show _ = _; rw [HH.out, HY.out]; exact q40
      clear z39 q40
      go_wp2
      refine bodyPost_ret (v := .tuple #[.agg #[.int .i64 K, .string O, .int .i64 N, .int .i64 i], .int .i64 ((j : Int) + 1), .int .i64 0]) (by simp [results, Try.results36, go_sem, *]) rfl ?_
      refine ⟨?_, .inr ⟨O.data.toList, j + 1 - (i + 1), O, ?_, rfl, ?_⟩⟩
      ·repeat' (first | (with_reducible assumption) | (with_reducible refine grown_drewN ?_ _) | (with_reducible refine grown_setOwn ?_ ?_ _) | omega)
      ·rw [HTX.out, HC.out, HU.out, hx, Q39.out, txt_end F.out]
       simp; omega
      ·rw [show i + 1 + (j + 1 - (i + 1)) = j + 1 by omega]; rfl
     ·rw [q40] at z39
      have m39 : ((y.toNat : Int) == 39) = true := z39
      have F : Hid (hd (· == 39) (s.data.toList.drop (j + 1)) = true) := by show _ = _; rw [HH.out, HY.out]; exact q40
      have hcat : O.size + 1 ≤ 100000 := by omega
      have hcat2 : O.size + (⟨#[39]⟩ : ByteArray).size ≤ 100000 := hcat
      clear z39 q40
      go_wp2
      go_roundg (gk - 2)
      case measure => have h2 := HG.out; omega
      case rel =>
       have h2 := HG.out
       refine ⟨j + 2, _, rfl, by omega, by omega, by have h5 : (⟨#[39]⟩ : ByteArray).size = 1 := rfl; simp; omega, ?_, HB.out.put' _⟩
       rw [HTX.out, HC.out, HU.out, hx, Q39.out, txt_two F.out, List.drop_drop]
       cases txt (s.data.toList.drop (j + 1 + 1)) with
       | none => rfl
       | some z => simp; omega
    ·have d1 : decide (j + 1 < s.size) = false := decide_eq_false h1
     have d1' : decide ((j : Int) + 1 < (s.size : Int)) = false := decide_eq_false (by omega)
     have F : Hid (hd (· == 39) (s.data.toList.drop (j + 1)) = false) := hd_end (by omega)
     go_wp2
     refine bodyPost_ret (v := .tuple #[.agg #[.int .i64 K, .string O, .int .i64 N, .int .i64 i], .int .i64 ((j : Int) + 1), .int .i64 0]) (by simp [results, Try.results36, go_sem, *]) rfl ?_
     refine ⟨?_, .inr ⟨O.data.toList, j + 1 - (i + 1), O, ?_, rfl, ?_⟩⟩
     ·repeat' (first | (with_reducible assumption) | (with_reducible refine grown_drewN ?_ _) | (with_reducible refine grown_setOwn ?_ ?_ _) | omega)
     ·rw [HTX.out, HC.out, HU.out, hx, Q39.out, txt_end F.out]
      simp; omega
     ·rw [show i + 1 + (j + 1 - (i + 1)) = j + 1 by omega]; rfl
  ·have d0 : decide (j < s.size) = false := decide_eq_false hjs
   have d0' : decide ((j : Int) < (s.size : Int)) = false := decide_eq_false (by omega)
   go_wp2
   refine bodyPost_ret (v := .tuple #[.agg #[.int .i64 K, .string O, .int .i64 N, .int .i64 i], .int .i64 0, .int .i64 11]) (by simp [results, Try.results36, go_sem, *]) rfl ?_
   refine ⟨?_, .inl ⟨?_, O, ?_⟩⟩
   ·repeat' (first | (with_reducible assumption) | (with_reducible refine grown_drewN ?_ _) | (with_reducible refine grown_setOwn ?_ ?_ _) | omega)
   ·rw [HTX.out, List.drop_eq_nil_of_le (by simpa using hjs)]; rfl
   ·rfl
end Go.Proofs.Ytnojndgmgkgnpaa.Lx
/- Chapter 06: the reference's symbol. -/
namespace Go.Proofs.Ytnojndgmgkgnpaa.Lx
open Go.ChangeShapes Go.WideShapes Go.ChangeAt Go.RowKit
set_option linter.unusedVariables false
set_option linter.unusedSimpArgs false
/-- what stands behind a hash -/
def hashV (r : Bs) : Took Tok := if hd (· == 40) r then .ok ⟨7, [], 0⟩ 1 else match symV r with | .err e => .err e | .ok t n => .ok ⟨6, t, 0⟩ n
/-- what the reference's token comes to -/
def RPost (V : Took Tok) (w : World) (i base : Nat) (e : Ending) (w' : World) : Prop := w.grownBy w' none ∧
 ((∃ x, V = .err x ∧ ∃ (k1 : Int) (k2 : ByteArray) (k3 : Int), e = .returned (.tuple #[.agg #[.int .i64 k1, .string k2, .int .i64 k3, .int .i64 i], .int .i64 0, .int .i64 x])) ∨
   ∃ (t : Tok) (n : Nat) (T : ByteArray), V = .ok t n ∧ T.data.toList = t.text ∧ e = .returned (.tuple #[.agg #[.int .i64 t.kind, .string T, .int .i64 t.num, .int .i64 i], .int .i64 ((base + n : Nat) : Int), .int .i64 0]))
theorem kind_sign (c : UInt8) : (kindV c == 3) = signB c := by
 unfold kindV
 cases hs : signB c
 ·cases letB c <;> cases digB c <;> cases blankB c <;> cases markB c <;> rfl
 ·simp [signB, signs] at hs
  rcases hs with rfl | rfl | rfl | rfl | rfl | rfl | rfl | rfl | rfl | rfl | rfl | rfl <;> decide
theorem kind_letter (c : UInt8) : (kindV c == 1) = letB c := by
 unfold kindV
 cases letB c <;> cases digB c <;> cases blankB c <;> cases signB c <;> cases markB c <;> rfl
theorem at_sign (s : ByteArray) (i : Nat) : hd signB (s.data.toList.drop i) = (atV s i == 3) := by
 unfold atV
 by_cases h : i < s.size
 ·rw [dif_pos h, hd_drop h, kind_sign]
 ·rw [dif_neg h, hd_end (by omega)]; rfl
theorem at_let (s : ByteArray) (i : Nat) : hd letB (s.data.toList.drop i) = (atV s i == 1) := by
 unfold atV
 by_cases h : i < s.size
 ·rw [dif_pos h, hd_drop h, kind_letter]
 ·rw [dif_neg h, hd_end (by omega)]; rfl
theorem rat1 (s : ByteArray) (i : Nat) (w : World) (hs : s.size ≤ 100000) : Calls Try.prog 33 #[.string s, .int .i64 ((i : Int) + 1)] w fun e w' => e = .returned (.int .i64 (atV s (i + 1))) ∧ w' = w := rat_any s (i + 1) w hs
theorem rat2 (s : ByteArray) (i : Nat) (w : World) (hs : s.size ≤ 100000) : Calls Try.prog 33 #[.string s, .int .i64 ((i : Int) + 1 + 1)] w fun e w' => e = .returned (.int .i64 (atV s (i + 1 + 1))) ∧ w' = w := rat_any s (i + 1 + 1) w hs
set_option maxHeartbeats 4000000 in
theorem rsym_arr (s : ByteArray) (i : Nat) (w : World) (hs : s.size ≤ 100000) (hi : i + 1 ≤ s.size) (h40 : hd (· == 40) (s.data.toList.drop (i + 1)) = true) :
  Calls Try.prog 37 #[.string s, .agg #[.int .i64 0, .string ⟨#[]⟩, .int .i64 0, .int .i64 i]] w (RPost (hashV (s.data.toList.drop (i + 1))) w i (i + 1)) := by
 have F : Hid (hashV (s.data.toList.drop (i + 1)) = .ok ⟨7, [], 0⟩ 1) := if_pos h40
 rw [hd_byte (p := (· == 40)) rfl] at h40
 have hlt : i + 1 < s.size := by
  rcases Nat.lt_or_ge (i + 1) s.size with h | h
  ·exact h
  ·rw [byteU_ge h] at h40; cases h40
 rw [byteU_lt hlt] at h40
 have d1 : decide (i + 1 < s.size) = true := decide_eq_true hlt
 have d1' : decide ((i : Int) + 1 < (s.size : Int)) = true := decide_eq_true (by omega)
 have b2 : (i : Int) + 1 < (s.size : Int) := by omega
 have b3 : (0 : Int) ≤ (i : Int) + 1 := by omega
 obtain ⟨x, hx⟩ : ∃ x, s[i + 1] = x := ⟨_, rfl⟩
 rw [hx] at h40
 have e40 := u8_eq x 40 (by omega)
 rw [show (x == UInt8.ofNat 40) = true from h40] at e40
 have n40 : ((x.toNat : Int) == 40) = true := e40
 clear h40 e40
 go_enter Try.func37, Try.ntmps37
 go_wp2
 refine bodyPost_ret (v := .tuple #[.agg #[.int .i64 7, .string ⟨#[]⟩, .int .i64 0, .int .i64 i], .int .i64 ((i : Int) + 1 + 1), .int .i64 0]) (by simp [results, Try.results37, go_sem, *]) rfl ?_
 refine ⟨?_, .inr ⟨_, _, ⟨#[]⟩, F.out, rfl, ?_⟩⟩
 ·repeat' (first | (with_reducible exact World.grownBy.refl _ _) | (with_reducible assumption) | (with_reducible refine grown_alloc ?_ _) | (with_reducible refine grown_drewN ?_ _) | (with_reducible refine grown_setOwn ?_ ?_ _) | omega)
 ·rfl
set_option maxHeartbeats 4000000 in
theorem rsym_none (s : ByteArray) (i : Nat) (w : World) (hs : s.size ≤ 100000) (hi : i + 1 ≤ s.size) (h40 : hd (· == 40) (s.data.toList.drop (i + 1)) = false) (hsg : hd signB (s.data.toList.drop (i + 1)) = false) (hlt : hd letB (s.data.toList.drop (i + 1)) = false) :
  Calls Try.prog 37 #[.string s, .agg #[.int .i64 0, .string ⟨#[]⟩, .int .i64 0, .int .i64 i]] w (RPost (hashV (s.data.toList.drop (i + 1))) w i (i + 1)) := by
 have F : Hid (hashV (s.data.toList.drop (i + 1)) = .err 10) := by show _ = _; unfold hashV; rw [if_neg (by simp [h40]), sym_none hsg hlt]
 rw [hd_byte (p := (· == 40)) rfl] at h40
 rw [at_sign] at hsg
 rw [at_let] at hlt
 obtain ⟨a, ha⟩ : ∃ a, atV s (i + 1) = a := ⟨_, rfl⟩
 have HA := Lib.hid ha
 rw [ha] at hsg hlt
 have nlt : (a != 1) = true := by unfold bne; rw [hlt]; rfl
 clear ha
 have b3 : (0 : Int) ≤ (i : Int) + 1 := by omega
 by_cases hlt' : i + 1 < s.size
 ·rw [byteU_lt hlt'] at h40
  have d1 : decide (i + 1 < s.size) = true := decide_eq_true hlt'
  have d1' : decide ((i : Int) + 1 < (s.size : Int)) = true := decide_eq_true (by omega)
  have b2 : (i : Int) + 1 < (s.size : Int) := by omega
  obtain ⟨x, hx⟩ : ∃ x, s[i + 1] = x := ⟨_, rfl⟩
  rw [hx] at h40
  have e40 := u8_eq x 40 (by omega)
  rw [show (x == UInt8.ofNat 40) = false from h40] at e40
  have n40 : ((x.toNat : Int) == 40) = false := e40
  clear h40 e40
  go_enter Try.func37, Try.ntmps37
  go_wp2_with (go_at_call 33; (with_reducible refine (rat1 _ _ _ hs).mono ?_); rw [HA.out]; rintro e w' ⟨rfl, rfl⟩)
  refine bodyPost_ret (v := .tuple #[.agg #[.int .i64 6, .string ⟨#[]⟩, .int .i64 0, .int .i64 i], .int .i64 0, .int .i64 10]) (by simp [results, Try.results37, go_sem, *]) rfl ?_
  refine ⟨?_, .inl ⟨_, F.out, _, _, _, rfl⟩⟩
  repeat' (first | (with_reducible exact World.grownBy.refl _ _) | (with_reducible assumption) | (with_reducible refine grown_alloc ?_ _) | (with_reducible refine grown_drewN ?_ _) | (with_reducible refine grown_setOwn ?_ ?_ _) | omega)
 ·have d1 : decide (i + 1 < s.size) = false := decide_eq_false hlt'
  have d1' : decide ((i : Int) + 1 < (s.size : Int)) = false := decide_eq_false (by omega)
  clear h40
  go_enter Try.func37, Try.ntmps37
  go_wp2_with (go_at_call 33; (with_reducible refine (rat1 _ _ _ hs).mono ?_); rw [HA.out]; rintro e w' ⟨rfl, rfl⟩)
  refine bodyPost_ret (v := .tuple #[.agg #[.int .i64 6, .string ⟨#[]⟩, .int .i64 0, .int .i64 i], .int .i64 0, .int .i64 10]) (by simp [results, Try.results37, go_sem, *]) rfl ?_
  refine ⟨?_, .inl ⟨_, F.out, _, _, _, rfl⟩⟩
  repeat' (first | (with_reducible exact World.grownBy.refl _ _) | (with_reducible assumption) | (with_reducible refine grown_alloc ?_ _) | (with_reducible refine grown_drewN ?_ _) | (with_reducible refine grown_setOwn ?_ ?_ _) | omega)
end Go.Proofs.Ytnojndgmgkgnpaa.Lx
/- Chapter 06: the reference's symbol: signs; a name that is too long. -/
namespace Go.Proofs.Ytnojndgmgkgnpaa.Lx
open Go.ChangeShapes Go.WideShapes Go.ChangeAt Go.RowKit
set_option linter.unusedVariables false
set_option linter.unusedSimpArgs false
theorem rname1 (s : ByteArray) (i : Nat) (w : World) (hs : s.size ≤ 100000) (hi : i + 1 ≤ s.size) : Calls Try.prog 34 #[.string s, .int .i64 ((i : Int) + 1)] w fun e w' => e = .returned (.int .i64 ((i + 1 + nmLen (s.data.toList.drop (i + 1)) : Nat) : Int)) ∧ w' = w := rname_any s (i + 1) w hs hi
theorem sg_one {l : Bs} (h : hd signB l = true) (h2 : hd signB (l.drop 1) = false) : sgLen l = 1 := by
 cases l with
 | nil => cases h
 | cons c r =>
  cases r with
  | nil => simp [sgLen, hd] at h ⊢; simp [h]
  | cons d q =>
   simp [hd] at h h2
   simp [sgLen, h, h2]
theorem sg_two {l : Bs} (h : hd signB l = true) (h2 : hd signB (l.drop 1) = true) : sgLen l = 2 := by
 cases l with
 | nil => cases h
 | cons c r =>
  cases r with
  | nil => cases h2
  | cons d q =>
   simp [hd] at h h2
   simp [sgLen, h, h2]
theorem at_lt {s : ByteArray} {i : Nat} {k : Int} (h : atV s i = k) (hk : k ≠ -1) : i < s.size := by
 unfold atV at h
 split at h
 ·assumption
 ·exact absurd h.symm hk
theorem hash_sym {l : Bs} (h : hd (· == 40) l = false) : hashV l = match symV l with | .err e => .err e | .ok t n => .ok ⟨6, t, 0⟩ n := if_neg (by simp [h])
set_option maxHeartbeats 4000000 in
theorem rsym_long (s : ByteArray) (i : Nat) (w : World) (hs : s.size ≤ 100000) (hi : i + 1 ≤ s.size) (h40 : hd (· == 40) (s.data.toList.drop (i + 1)) = false) (hsg : hd signB (s.data.toList.drop (i + 1)) = false) (hlt : hd letB (s.data.toList.drop (i + 1)) = true) (h24 : nmLen (s.data.toList.drop (i + 1)) > 24) :
  Calls Try.prog 37 #[.string s, .agg #[.int .i64 0, .string ⟨#[]⟩, .int .i64 0, .int .i64 i]] w (RPost (hashV (s.data.toList.drop (i + 1))) w i (i + 1)) := by
 have F : Hid (hashV (s.data.toList.drop (i + 1)) = .err 12) := by show _ = _; rw [hash_sym h40, sym_long hsg hlt h24]
 rw [hd_byte (p := (· == 40)) rfl] at h40
 rw [at_sign] at hsg
 rw [at_let] at hlt
 have hlt' : i + 1 < s.size := at_lt (by simpa using hlt) (by decide)
 obtain ⟨a, ha⟩ : ∃ a, atV s (i + 1) = a := ⟨_, rfl⟩
 have HA := Lib.hid ha
 rw [ha] at hsg hlt
 have nlt : (a != 1) = false := by unfold bne; rw [hlt]; rfl
 clear ha
 have hbn := nm_bd s (i + 1) hi
 obtain ⟨n, hn⟩ : ∃ n, nmLen (s.data.toList.drop (i + 1)) = n := ⟨_, rfl⟩
 have HN := Lib.hid hn
 rw [hn] at h24 hbn
 clear hn
 obtain ⟨q, hq⟩ : ∃ q, q = i + 1 + n := ⟨_, rfl⟩
 have HQ := Lib.hid hq
 have t24 : decide (24 < (q : Int) - ((i : Int) + 1)) = true := decide_eq_true (by omega)
 rw [← hq] at hbn
 clear hq
 have b3 : (0 : Int) ≤ (i : Int) + 1 := by omega
 rw [byteU_lt hlt'] at h40
 have d1 : decide (i + 1 < s.size) = true := decide_eq_true hlt'
 have d1' : decide ((i : Int) + 1 < (s.size : Int)) = true := decide_eq_true (by omega)
 have b2 : (i : Int) + 1 < (s.size : Int) := by omega
 obtain ⟨x, hx⟩ : ∃ x, s[i + 1] = x := ⟨_, rfl⟩
 rw [hx] at h40
 have e40 := u8_eq x 40 (by omega)
 rw [show (x == UInt8.ofNat 40) = false from h40] at e40
 have n40 : ((x.toNat : Int) == 40) = false := e40
 clear h40 e40
 go_enter Try.func37, Try.ntmps37
 go_wp2_with (first | (go_at_call 33; (with_reducible refine (rat1 _ _ _ hs).mono ?_); rw [HA.out]; rintro e w' ⟨rfl, rfl⟩) | (go_at_call 34; (with_reducible refine (rname1 _ _ _ hs hi).mono ?_); rw [HN.out, ← HQ.out]; rintro e w' ⟨rfl, rfl⟩))
 refine bodyPost_ret (v := .tuple #[.agg #[.int .i64 6, .string ⟨#[]⟩, .int .i64 0, .int .i64 i], .int .i64 0, .int .i64 12]) (by simp [results, Try.results37, go_sem, *]) rfl ?_
 refine ⟨?_, .inl ⟨_, F.out, _, _, _, rfl⟩⟩
 repeat' (first | (with_reducible exact World.grownBy.refl _ _) | (with_reducible assumption) | (with_reducible refine grown_alloc ?_ _) | (with_reducible refine grown_drewN ?_ _) | (with_reducible refine grown_setOwn ?_ ?_ _) | omega)
end Go.Proofs.Ytnojndgmgkgnpaa.Lx
/- Chapter 06: the reference's symbol: signs. -/
namespace Go.Proofs.Ytnojndgmgkgnpaa.Lx
open Go.ChangeShapes Go.WideShapes Go.ChangeAt Go.RowKit
set_option linter.unusedVariables false
set_option linter.unusedSimpArgs false
set_option maxHeartbeats 4000000 in
theorem rsym_sign2 (s : ByteArray) (i : Nat) (w : World) (hs : s.size ≤ 100000) (hi : i + 1 ≤ s.size) (h40 : hd (· == 40) (s.data.toList.drop (i + 1)) = false) (hsg : hd signB (s.data.toList.drop (i + 1)) = true) (hsg2 : hd signB (s.data.toList.drop (i + 1 + 1)) = true) :
  Calls Try.prog 37 #[.string s, .agg #[.int .i64 0, .string ⟨#[]⟩, .int .i64 0, .int .i64 i]] w (RPost (hashV (s.data.toList.drop (i + 1))) w i (i + 1)) := by
 have F : Hid (hashV (s.data.toList.drop (i + 1)) = .ok ⟨6, (s.data.toList.drop (i + 1)).take 2, 0⟩ 2) := by show _ = _; rw [hash_sym h40, sym_sign hsg, sg_two hsg (by rw [List.drop_drop]; exact hsg2)]
 rw [hd_byte (p := (· == 40)) rfl] at h40
 rw [at_sign] at hsg hsg2
 have hlt' : i + 1 < s.size := at_lt (by simpa using hsg) (by decide)
 have hlt2 : i + 1 + 1 < s.size := at_lt (by simpa using hsg2) (by decide)
 obtain ⟨a, ha⟩ : ∃ a, atV s (i + 1) = a := ⟨_, rfl⟩
 have HA := Lib.hid ha
 obtain ⟨a2, ha2⟩ : ∃ a2, atV s (i + 1 + 1) = a2 := ⟨_, rfl⟩
 have HA2 := Lib.hid ha2
 rw [ha] at hsg
 rw [ha2] at hsg2
 clear ha ha2
 have b3 : (0 : Int) ≤ (i : Int) + 1 := by omega
 rw [byteU_lt hlt'] at h40
 have d1 : decide (i + 1 < s.size) = true := decide_eq_true hlt'
 have d1' : decide ((i : Int) + 1 < (s.size : Int)) = true := decide_eq_true (by omega)
 have b2 : (i : Int) + 1 < (s.size : Int) := by omega
 have b4 : (i : Int) + 1 + 1 + 1 ≤ (s.size : Int) := by omega
 have b5 : (i : Int) + 1 ≤ (i : Int) + 1 + 1 + 1 := by omega
 have b6 : (0 : Int) ≤ (i : Int) + 1 + 1 + 1 := by omega
 have b7 : ((i : Int) + 1 + 1 + 1).toNat = i + 1 + 2 := by omega
 have b8 : ((i : Int) + 1).toNat = i + 1 := by omega
 have b9 : i + 1 ≤ i + 1 + 2 := by omega
 have b10 : i + 1 + 2 ≤ s.size := by omega
 have HX := Lib.hid (ext_list s (i + 1) 2)
 obtain ⟨t, ht⟩ : ∃ t, s.extract (i + 1) (i + 1 + 2) = t := ⟨_, rfl⟩
 have HT := Lib.hid ht
 obtain ⟨x, hx⟩ : ∃ x, s[i + 1] = x := ⟨_, rfl⟩
 rw [hx] at h40
 have e40 := u8_eq x 40 (by omega)
 rw [show (x == UInt8.ofNat 40) = false from h40] at e40
 have n40 : ((x.toNat : Int) == 40) = false := e40
 clear h40 e40
 go_enter Try.func37, Try.ntmps37
 go_wp2_with (first | (go_at_call 33; (with_reducible refine (rat1 _ _ _ hs).mono ?_); rw [HA.out]; rintro e w' ⟨rfl, rfl⟩) | (go_at_call 33; (with_reducible refine (rat2 _ _ _ hs).mono ?_); rw [HA2.out]; rintro e w' ⟨rfl, rfl⟩))
 refine bodyPost_ret (v := .tuple #[.agg #[.int .i64 6, .string t, .int .i64 0, .int .i64 i], .int .i64 ((i : Int) + 1 + 1 + 1), .int .i64 0]) (by simp [results, Try.results37, go_sem, *]) rfl ?_
 refine ⟨?_, .inr ⟨_, _, t, F.out, by rw [← HT.out]; exact HX.out, rfl⟩⟩
 repeat' (first | (with_reducible exact World.grownBy.refl _ _) | (with_reducible assumption) | (with_reducible refine grown_alloc ?_ _) | (with_reducible refine grown_drewN ?_ _) | (with_reducible refine grown_setOwn ?_ ?_ _) | omega)
set_option maxHeartbeats 4000000 in
theorem rsym_sign1 (s : ByteArray) (i : Nat) (w : World) (hs : s.size ≤ 100000) (hi : i + 1 ≤ s.size) (h40 : hd (· == 40) (s.data.toList.drop (i + 1)) = false) (hsg : hd signB (s.data.toList.drop (i + 1)) = true) (hsg2 : hd signB (s.data.toList.drop (i + 1 + 1)) = false) :
  Calls Try.prog 37 #[.string s, .agg #[.int .i64 0, .string ⟨#[]⟩, .int .i64 0, .int .i64 i]] w (RPost (hashV (s.data.toList.drop (i + 1))) w i (i + 1)) := by
 have F : Hid (hashV (s.data.toList.drop (i + 1)) = .ok ⟨6, (s.data.toList.drop (i + 1)).take 1, 0⟩ 1) := by show _ = _; rw [hash_sym h40, sym_sign hsg, sg_one hsg (by rw [List.drop_drop]; exact hsg2)]
 rw [hd_byte (p := (· == 40)) rfl] at h40
 rw [at_sign] at hsg hsg2
 have hlt' : i + 1 < s.size := at_lt (by simpa using hsg) (by decide)
 obtain ⟨a, ha⟩ : ∃ a, atV s (i + 1) = a := ⟨_, rfl⟩
 have HA := Lib.hid ha
 obtain ⟨a2, ha2⟩ : ∃ a2, atV s (i + 1 + 1) = a2 := ⟨_, rfl⟩
 have HA2 := Lib.hid ha2
 rw [ha] at hsg
 rw [ha2] at hsg2
 clear ha ha2
 have b3 : (0 : Int) ≤ (i : Int) + 1 := by omega
 rw [byteU_lt hlt'] at h40
 have d1 : decide (i + 1 < s.size) = true := decide_eq_true hlt'
 have d1' : decide ((i : Int) + 1 < (s.size : Int)) = true := decide_eq_true (by omega)
 have b2 : (i : Int) + 1 < (s.size : Int) := by omega
 have b4 : (i : Int) + 1 + 1 ≤ (s.size : Int) := by omega
 have b5 : (i : Int) + 1 ≤ (i : Int) + 1 + 1 := by omega
 have b6 : (0 : Int) ≤ (i : Int) + 1 + 1 := by omega
 have b7 : ((i : Int) + 1 + 1).toNat = i + 1 + 1 := by omega
 have b8 : ((i : Int) + 1).toNat = i + 1 := by omega
 have b9 : i + 1 ≤ i + 1 + 1 := by omega
 have b10 : i + 1 + 1 ≤ s.size := by omega
 have HX := Lib.hid (ext_list s (i + 1) 1)
 obtain ⟨t, ht⟩ : ∃ t, s.extract (i + 1) (i + 1 + 1) = t := ⟨_, rfl⟩
 have HT := Lib.hid ht
 obtain ⟨x, hx⟩ : ∃ x, s[i + 1] = x := ⟨_, rfl⟩
 rw [hx] at h40
 have e40 := u8_eq x 40 (by omega)
 rw [show (x == UInt8.ofNat 40) = false from h40] at e40
 have n40 : ((x.toNat : Int) == 40) = false := e40
 clear h40 e40
 go_enter Try.func37, Try.ntmps37
 go_wp2_with (first | (go_at_call 33; (with_reducible refine (rat1 _ _ _ hs).mono ?_); rw [HA.out]; rintro e w' ⟨rfl, rfl⟩) | (go_at_call 33; (with_reducible refine (rat2 _ _ _ hs).mono ?_); rw [HA2.out]; rintro e w' ⟨rfl, rfl⟩))
 refine bodyPost_ret (v := .tuple #[.agg #[.int .i64 6, .string t, .int .i64 0, .int .i64 i], .int .i64 ((i : Int) + 1 + 1), .int .i64 0]) (by simp [results, Try.results37, go_sem, *]) rfl ?_
 refine ⟨?_, .inr ⟨_, _, t, F.out, by rw [← HT.out]; exact HX.out, rfl⟩⟩
 repeat' (first | (with_reducible exact World.grownBy.refl _ _) | (with_reducible assumption) | (with_reducible refine grown_alloc ?_ _) | (with_reducible refine grown_drewN ?_ _) | (with_reducible refine grown_setOwn ?_ ?_ _) | omega)
end Go.Proofs.Ytnojndgmgkgnpaa.Lx
/- Chapter 06: the reference's symbol: names. -/
namespace Go.Proofs.Ytnojndgmgkgnpaa.Lx
open Go.ChangeShapes Go.WideShapes Go.ChangeAt Go.RowKit
set_option linter.unusedVariables false
set_option linter.unusedSimpArgs false
/-- what is left of a symbol, where its end so far is told -/
def SymAt (l : Bs) (n : Nat) : Prop := symV l = if colonB (l.drop n) then (match kws (l.length + 1) (l.drop (n + 1)) with | none => Took.err 12 | some k => Took.ok (l.take (n + 1 + k)) (n + 1 + k)) else Took.ok (l.take n) n
theorem symAt0 {l : Bs} (h : hd signB l = false) (h' : hd letB l = true) (h24 : ¬ nmLen l > 24) : SymAt l (nmLen l) := by
 unfold SymAt
 cases hc : colonB (l.drop (nmLen l))
 ·rw [sym_name h h' h24 hc]; rfl
 ·rw [sym_kw h h' h24 hc, kws_fuel l.length (l.length + 1) _ (by simp) (by simp; omega)]; rfl
theorem symAt_end {l : Bs} {n : Nat} (h : SymAt l n) (hc : colonB (l.drop n) = false) : symV l = .ok (l.take n) n := by
 unfold SymAt at h; rw [h, if_neg (by simp [hc])]
theorem symAt_stop {l : Bs} {n : Nat} (h : SymAt l n) (hc : colonB (l.drop n) = true) (hk : ¬ (hd letB (l.drop (n + 1)) = true ∧ colonB (l.drop (n + 1 + nmLen (l.drop (n + 1)))) = true)) : symV l = .ok (l.take (n + 1)) (n + 1) := by
 unfold SymAt at h
 rw [h, if_pos hc, kws_some (by rw [List.drop_drop]; exact hk)]
theorem symAt_long {l : Bs} {n : Nat} (h : SymAt l n) (hc : colonB (l.drop n) = true) (h1 : hd letB (l.drop (n + 1)) = true) (h2 : colonB (l.drop (n + 1 + nmLen (l.drop (n + 1)))) = true) (h24 : nmLen (l.drop (n + 1)) > 24) : symV l = .err 12 := by
 unfold SymAt at h
 rw [h, if_pos hc, kws_none h1 (by rw [List.drop_drop]; exact h2) h24]
theorem symAt_next {l : Bs} {n : Nat} (h : SymAt l n) (hc : colonB (l.drop n) = true) (h1 : hd letB (l.drop (n + 1)) = true) (h2 : colonB (l.drop (n + 1 + nmLen (l.drop (n + 1)))) = true) (h24 : ¬ nmLen (l.drop (n + 1)) > 24) : SymAt l (n + 1 + nmLen (l.drop (n + 1))) := by
 unfold SymAt at h ⊢
 rw [if_pos h2, h, if_pos hc, kws_more h1 (by rw [List.drop_drop]; exact h2) h24 (by simp), List.drop_drop, show n + 1 + (nmLen (l.drop (n + 1)) + 1) = n + 1 + nmLen (l.drop (n + 1)) + 1 by omega]
 cases kws (l.length + 1) (l.drop (n + 1 + nmLen (l.drop (n + 1)) + 1)) with
 | none => rfl
 | some k => simp only [Option.map]; rw [show n + 1 + (k + (nmLen (l.drop (n + 1)) + 1)) = n + 1 + nmLen (l.drop (n + 1)) + 1 + k by omega]
end Go.Proofs.Ytnojndgmgkgnpaa.Lx
/- Chapter 06: the reference's token: marks and signs. -/
namespace Go.Proofs.Ytnojndgmgkgnpaa.Lx
open Go.ChangeShapes Go.WideShapes Go.ChangeAt Go.RowKit
set_option linter.unusedVariables false
set_option linter.unusedSimpArgs false
theorem kind_markb (c : UInt8) : (kindV c == 4) = markB c := by
 unfold kindV
 cases hs : markB c
 ·cases letB c <;> cases digB c <;> cases blankB c <;> cases signB c <;> rfl
 ·simp [markB, marks] at hs
  rcases hs with rfl | rfl | rfl | rfl | rfl | rfl | rfl | rfl <;> decide
set_option maxRecDepth 100000 in
set_option maxHeartbeats 4000000 in
theorem rtok_mark (s : ByteArray) (i : Nat) (w : World) (hs : s.size ≤ 100000) (hi : i < s.size) (hm : markB (byteU s i) = true) :
  Calls Try.prog 21 #[.string s, .int .i64 i] w (RPost (tokV (s.data.toList.drop i)) w i i) := by
 have F : Hid (tokV (s.data.toList.drop i) = .ok ⟨10, [byteU s i], 0⟩ 1) := by
  show _ = _
  rw [byte_cons hi]
  generalize byteU s i = c at hm ⊢
  generalize s.data.toList.drop (i + 1) = r
  simp [markB, marks] at hm
  rcases hm with rfl | rfl | rfl | rfl | rfl | rfl | rfl | rfl <;> rfl
 have HA : Hid (atV s i = 4) := by show _ = _; unfold atV; rw [dif_pos hi, ← byteU_lt hi]; have := (kind_markb (byteU s i)).trans hm; simpa using this
 clear hm
 obtain ⟨a, ha⟩ : ∃ a, a = (4 : Int) := ⟨_, rfl⟩
 rw [← ha] at HA
 have a1 : (a == 1) = false := by rw [ha]; rfl
 have a2 : (a == 2) = false := by rw [ha]; rfl
 have a3 : (a == 3) = false := by rw [ha]; rfl
 have a4 : (a == 4) = true := by rw [ha]; rfl
 clear ha
 have b1 : (i : Int) + 1 ≤ (s.size : Int) := by omega
 have b2 : (i : Int) ≤ (i : Int) + 1 := by omega
 have b3 : (0 : Int) ≤ (i : Int) + 1 := by omega
 have b4 : ((i : Int) + 1).toNat = i + 1 := by omega
 have b5 : i ≤ i + 1 := by omega
 have b6 : i + 1 ≤ s.size := by omega
 obtain ⟨t, ht⟩ : ∃ t, s.extract i (i + 1) = t := ⟨_, rfl⟩
 have HT : Hid (t.data.toList = [byteU s i]) := by show _ = _; rw [byteU_lt hi]; exact one_byte hi ht
 go_enter Try.func21, Try.ntmps21
 go_wp2_with (first | (go_at_call 33; (with_reducible refine (rat_any _ _ _ hs).mono ?_); rw [HA.out]; rintro e w' ⟨rfl, rfl⟩))
 refine bodyPost_ret (v := .tuple #[.agg #[.int .i64 10, .string t, .int .i64 0, .int .i64 i], .int .i64 ((i : Int) + 1), .int .i64 0]) (by simp [results, Try.results21, go_sem, *]) rfl ?_
 refine ⟨?_, .inr ⟨_, _, t, F.out, HT.out, rfl⟩⟩
 repeat' (first | (with_reducible exact World.grownBy.refl _ _) | (with_reducible assumption) | (with_reducible refine grown_alloc ?_ _) | (with_reducible refine grown_drewN ?_ _) | (with_reducible refine grown_setOwn ?_ ?_ _) | omega)
end Go.Proofs.Ytnojndgmgkgnpaa.Lx
/- Chapter 06: the reference's token: signs. -/
namespace Go.Proofs.Ytnojndgmgkgnpaa.Lx
open Go.ChangeShapes Go.WideShapes Go.ChangeAt Go.RowKit
set_option linter.unusedVariables false
set_option linter.unusedSimpArgs false
theorem tok_signR {l : Bs} (h : hd signB l = true) : tokV l = .ok ⟨3, l.take (sgLen l), 0⟩ (sgLen l) := by
 cases l with
 | nil => cases h
 | cons c r =>
  have h' : signB c = true := h
  simp [hd, signB, signs] at h
  unfold tokV
  rcases h with rfl | rfl | rfl | rfl | rfl | rfl | rfl | rfl | rfl | rfl | rfl | rfl <;> rfl
set_option maxRecDepth 100000 in
set_option maxHeartbeats 4000000 in
theorem rtok_sign2 (s : ByteArray) (i : Nat) (w : World) (hs : s.size ≤ 100000) (hi : i < s.size) (hsg : hd signB (s.data.toList.drop i) = true) (hsg2 : hd signB (s.data.toList.drop (i + 1)) = true) :
  Calls Try.prog 21 #[.string s, .int .i64 i] w (RPost (tokV (s.data.toList.drop i)) w i i) := by
 have F : Hid (tokV (s.data.toList.drop i) = .ok ⟨3, (s.data.toList.drop i).take 2, 0⟩ 2) := by
  show _ = _
  rw [tok_signR hsg, sg_two hsg (by rw [List.drop_drop]; exact hsg2)]
 rw [at_sign] at hsg hsg2
 have hi2 : i + 1 < s.size := at_lt (by simpa using hsg2) (by decide)
 have h3 : atV s i = 3 := by simpa using hsg
 clear hsg
 obtain ⟨a, ha⟩ : ∃ a, a = (3 : Int) := ⟨_, rfl⟩
 rw [← ha] at h3
 have HA := Lib.hid h3
 have a1 : (a == 1) = false := by rw [ha]; rfl
 have a2 : (a == 2) = false := by rw [ha]; rfl
 have a3 : (a == 3) = true := by rw [ha]; rfl
 obtain ⟨q, hq⟩ : ∃ q, atV s (i + 1) = q := ⟨_, rfl⟩
 have HA2 := Lib.hid hq
 rw [hq] at hsg2
 clear ha h3 hq
 have b1 : (i : Int) + 1 + 1 ≤ (s.size : Int) := by omega
 have b2 : (i : Int) ≤ (i : Int) + 1 + 1 := by omega
 have b3 : (0 : Int) ≤ (i : Int) + 1 + 1 := by omega
 have b4 : ((i : Int) + 1 + 1).toNat = i + 2 := by omega
 have b5 : i ≤ i + 2 := by omega
 have b6 : i + 2 ≤ s.size := by omega
 have HX := Lib.hid (ext_list s i 2)
 obtain ⟨t, ht⟩ : ∃ t, s.extract i (i + 2) = t := ⟨_, rfl⟩
 have HT := Lib.hid ht
 go_enter Try.func21, Try.ntmps21
 go_wp2_with (first | (go_at_call 33; (with_reducible refine (rat_any _ _ _ hs).mono ?_); rw [HA.out]; rintro e w' ⟨rfl, rfl⟩) | (go_at_call 33; (with_reducible refine (rat1 _ _ _ hs).mono ?_); rw [HA2.out]; rintro e w' ⟨rfl, rfl⟩))
 refine bodyPost_ret (v := .tuple #[.agg #[.int .i64 3, .string t, .int .i64 0, .int .i64 i], .int .i64 ((i : Int) + 1 + 1), .int .i64 0]) (by simp [results, Try.results21, go_sem, *]) rfl ?_
 refine ⟨?_, .inr ⟨_, _, t, F.out, by rw [← HT.out]; exact HX.out, rfl⟩⟩
 repeat' (first | (with_reducible exact World.grownBy.refl _ _) | (with_reducible assumption) | (with_reducible refine grown_alloc ?_ _) | (with_reducible refine grown_drewN ?_ _) | (with_reducible refine grown_setOwn ?_ ?_ _) | omega)
set_option maxRecDepth 100000 in
set_option maxHeartbeats 4000000 in
theorem rtok_sign1 (s : ByteArray) (i : Nat) (w : World) (hs : s.size ≤ 100000) (hi : i < s.size) (hsg : hd signB (s.data.toList.drop i) = true) (hsg2 : hd signB (s.data.toList.drop (i + 1)) = false) :
  Calls Try.prog 21 #[.string s, .int .i64 i] w (RPost (tokV (s.data.toList.drop i)) w i i) := by
 have F : Hid (tokV (s.data.toList.drop i) = .ok ⟨3, (s.data.toList.drop i).take 1, 0⟩ 1) := by
  show _ = _
  rw [tok_signR hsg, sg_one hsg (by rw [List.drop_drop]; exact hsg2)]
 rw [at_sign] at hsg hsg2
 have hi2 : i < s.size := hi
 have h3 : atV s i = 3 := by simpa using hsg
 clear hsg
 obtain ⟨a, ha⟩ : ∃ a, a = (3 : Int) := ⟨_, rfl⟩
 rw [← ha] at h3
 have HA := Lib.hid h3
 have a1 : (a == 1) = false := by rw [ha]; rfl
 have a2 : (a == 2) = false := by rw [ha]; rfl
 have a3 : (a == 3) = true := by rw [ha]; rfl
 obtain ⟨q, hq⟩ : ∃ q, atV s (i + 1) = q := ⟨_, rfl⟩
 have HA2 := Lib.hid hq
 rw [hq] at hsg2
 clear ha h3 hq
 have b1 : (i : Int) + 1 ≤ (s.size : Int) := by omega
 have b2 : (i : Int) ≤ (i : Int) + 1 := by omega
 have b3 : (0 : Int) ≤ (i : Int) + 1 := by omega
 have b4 : ((i : Int) + 1).toNat = i + 1 := by omega
 have b5 : i ≤ i + 1 := by omega
 have b6 : i + 1 ≤ s.size := by omega
 have HX := Lib.hid (ext_list s i 1)
 obtain ⟨t, ht⟩ : ∃ t, s.extract i (i + 1) = t := ⟨_, rfl⟩
 have HT := Lib.hid ht
 go_enter Try.func21, Try.ntmps21
 go_wp2_with (first | (go_at_call 33; (with_reducible refine (rat_any _ _ _ hs).mono ?_); rw [HA.out]; rintro e w' ⟨rfl, rfl⟩) | (go_at_call 33; (with_reducible refine (rat1 _ _ _ hs).mono ?_); rw [HA2.out]; rintro e w' ⟨rfl, rfl⟩))
 refine bodyPost_ret (v := .tuple #[.agg #[.int .i64 3, .string t, .int .i64 0, .int .i64 i], .int .i64 ((i : Int) + 1), .int .i64 0]) (by simp [results, Try.results21, go_sem, *]) rfl ?_
 refine ⟨?_, .inr ⟨_, _, t, F.out, by rw [← HT.out]; exact HX.out, rfl⟩⟩
 repeat' (first | (with_reducible exact World.grownBy.refl _ _) | (with_reducible assumption) | (with_reducible refine grown_alloc ?_ _) | (with_reducible refine grown_drewN ?_ _) | (with_reducible refine grown_setOwn ?_ ?_ _) | omega)
end Go.Proofs.Ytnojndgmgkgnpaa.Lx
/- Chapter 06: the reference's token: a text. -/
namespace Go.Proofs.Ytnojndgmgkgnpaa.Lx
open Go.ChangeShapes Go.WideShapes Go.ChangeAt Go.RowKit
set_option linter.unusedVariables false
set_option linter.unusedSimpArgs false
theorem rtextR (s : ByteArray) (i : Nat) (w : World) (hs : s.size ≤ 100000) (hi : i + 1 ≤ s.size) (h39 : byteU s i = 39) :
  Calls Try.prog 36 #[.string s, .agg #[.int .i64 5, .string ⟨#[]⟩, .int .i64 0, .int .i64 i]] w (RPost (tokV (s.data.toList.drop i)) w i i) := by
 refine (rtext_any s i 5 0 w hs hi).mono ?_
 have hc : s.data.toList.drop i = 39 :: s.data.toList.drop (i + 1) := by rw [byte_cons hi, h39]
 rintro e w' ⟨hg, ⟨hn, T, rfl⟩ | ⟨t, n, T, ht, hT, rfl⟩⟩
 ·exact ⟨hg, .inl ⟨11, by rw [hc]; show (match txt (s.data.toList.drop (i + 1)) with | none => Took.err 11 | some (t, n) => Took.ok (Tok.mk 5 t 0) (n + 1)) = _; rw [hn], _, _, _, rfl⟩⟩
 ·refine ⟨hg, .inr ⟨⟨5, t, 0⟩, n + 1, T, by rw [hc]; show (match txt (s.data.toList.drop (i + 1)) with | none => Took.err 11 | some (t, n) => Took.ok (Tok.mk 5 t 0) (n + 1)) = _; rw [ht], hT, ?_⟩⟩
  rw [show i + 1 + n = i + (n + 1) by omega]
end Go.Proofs.Ytnojndgmgkgnpaa.Lx
/- Chapter 06: the reference's token: a text, taken. -/
namespace Go.Proofs.Ytnojndgmgkgnpaa.Lx
open Go.ChangeShapes Go.WideShapes Go.ChangeAt Go.RowKit
set_option linter.unusedVariables false
set_option linter.unusedSimpArgs false
theorem RPost.shape {V : Took Tok} {w : World} {i base : Nat} {e : Ending} {w' : World} (h : RPost V w i base e w') : ∃ (k1 : Int) (k2 : ByteArray) (k3 m x : Int), e = .returned (.tuple #[.agg #[.int .i64 k1, .string k2, .int .i64 k3, .int .i64 i], .int .i64 m, .int .i64 x]) := by
 obtain ⟨_, ⟨x, _, k1, k2, k3, rfl⟩ | ⟨t, n, T, _, _, rfl⟩⟩ := h
 ·exact ⟨_, _, _, _, _, rfl⟩
 ·exact ⟨_, _, _, _, _, rfl⟩
theorem RPost.on {V : Took Tok} {w w1 : World} {i base : Nat} {e : Ending} {w' : World} (h : RPost V w1 i base e w') (g : w.grownBy w1 none) : RPost V w i base e w' := ⟨g.trans h.1, h.2⟩
set_option maxRecDepth 100000 in
set_option maxHeartbeats 4000000 in
theorem rtok_text (s : ByteArray) (i : Nat) (w : World) (hs : s.size ≤ 100000) (hi : i < s.size) (h39 : byteU s i = 39) :
  Calls Try.prog 21 #[.string s, .int .i64 i] w (RPost (tokV (s.data.toList.drop i)) w i i) := by
 have R := fun w' => rtextR s i w' hs hi h39
 have h0 : atV s i = 0 := by unfold atV; rw [dif_pos hi, ← byteU_lt hi, h39]; rfl
 obtain ⟨V, hV⟩ : ∃ V, tokV (s.data.toList.drop i) = V := ⟨_, rfl⟩
 rw [hV]
 rw [hV] at R
 obtain ⟨a, ha⟩ : ∃ a, a = (0 : Int) := ⟨_, rfl⟩
 rw [← ha] at h0
 have HA := Lib.hid h0
 have a1 : (a == 1) = false := by rw [ha]; rfl
 have a2 : (a == 2) = false := by rw [ha]; rfl
 have a3 : (a == 3) = false := by rw [ha]; rfl
 have a4 : (a == 4) = false := by rw [ha]; rfl
 have hx : s[i] = 39 := by rw [← byteU_lt hi, h39]
 have b0 : (0 : Int) ≤ (i : Int) := by omega
 have b1 : (i : Int) < (s.size : Int) := by omega
 clear ha h0 hV h39
 have v0 : ∀ o : Obj, ((w.alloc (.cells #[.int .i64 0, .string ⟨#[]⟩, .int .i64 0, .int .i64 0] 55)).alloc o).cell? ⟨w.heap.size, 0, none⟩ = some (.int .i64 0) := fun o => by simp [go_sem]
 have v1 : ∀ o : Obj, ((w.alloc (.cells #[.int .i64 0, .string ⟨#[]⟩, .int .i64 0, .int .i64 0] 55)).alloc o).cell? ⟨w.heap.size, 1, none⟩ = some (.string ⟨#[]⟩) := fun o => by simp [go_sem]
 have v2 : ∀ o : Obj, ((w.alloc (.cells #[.int .i64 0, .string ⟨#[]⟩, .int .i64 0, .int .i64 0] 55)).alloc o).cell? ⟨w.heap.size, 2, none⟩ = some (.int .i64 0) := fun o => by simp [go_sem]
 have v3 : ∀ o : Obj, ((w.alloc (.cells #[.int .i64 0, .string ⟨#[]⟩, .int .i64 0, .int .i64 0] 55)).alloc o).cell? ⟨w.heap.size, 3, none⟩ = some (.int .i64 0) := fun o => by simp [go_sem]
 have z0 : ∀ (o : Obj) (k : Nat), ((w.alloc (.cells #[.int .i64 0, .string ⟨#[]⟩, .int .i64 0, .int .i64 0] 55)).alloc o).frozen? ⟨w.heap.size, k, none⟩ = false := fun o k => by simp [go_sem]
 go_enter Try.func21, Try.ntmps21
 go_wp2_with (first | (go_at_call 33; (with_reducible refine (rat_any _ _ _ hs).mono ?_); rw [HA.out]; rintro e w' ⟨rfl, rfl⟩))
 (with_reducible refine (R _).mono ?_)
 rintro e w2 hR
 obtain ⟨k1, k2, k3, m, x, rfl⟩ := hR.shape
 have hbk := hR.1.block w.heap.size (by simp only [World.alloc, Array.size_push]; omega) (by simp)
 have cf := fun (o : Nat) => World.cell?_of_block (a := ⟨w.heap.size, o, none⟩) hbk
 have ff := fun (o : Nat) => World.frozen?_of_block (a := ⟨w.heap.size, o, none⟩) hbk
 have c0 := (cf 0).trans (v0 _)
 have c1 := (cf 1).trans (v1 _)
 have c2 := (cf 2).trans (v2 _)
 have c3 := (cf 3).trans (v3 _)
 have f0 := (ff 0).trans (z0 _ 0)
 have f1 := (ff 1).trans (z0 _ 1)
 have f2 := (ff 2).trans (z0 _ 2)
 have f3 := (ff 3).trans (z0 _ 3)
 go_wp2
 refine bodyPost_ret (v := .tuple #[.agg #[.int .i64 k1, .string k2, .int .i64 k3, .int .i64 i], .int .i64 m, .int .i64 x]) (by simp [results, Try.results21, go_sem, *]) rfl ?_
 refine ⟨?_, hR.2⟩
 have g0 : w.grownBy w2 none := ((World.grownBy_alloc _ _ _).trans (World.grownBy_alloc _ _ _)).trans hR.1
 repeat' (first | (with_reducible assumption) | (with_reducible refine grown_drewN ?_ _) | (with_reducible refine grown_setOwn ?_ ?_ _) | omega)
end Go.Proofs.Ytnojndgmgkgnpaa.Lx
/- Chapter 06: the reference's token: an assignment's sign. -/
namespace Go.Proofs.Ytnojndgmgkgnpaa.Lx
open Go.ChangeShapes Go.WideShapes Go.ChangeAt Go.RowKit
set_option linter.unusedVariables false
set_option linter.unusedSimpArgs false
set_option maxRecDepth 100000 in
set_option maxHeartbeats 4000000 in
theorem rtok_assign (s : ByteArray) (i : Nat) (w : World) (hs : s.size ≤ 100000) (hi : i < s.size) (h58 : byteU s i = 58) (h61 : byteU s (i + 1) = 61) :
  Calls Try.prog 21 #[.string s, .int .i64 i] w (RPost (tokV (s.data.toList.drop i)) w i i) := by
 have hi1 : i + 1 < s.size := by
  rcases Nat.lt_or_ge (i + 1) s.size with h | h
  ·exact h
  ·rw [byteU_ge h] at h61; cases h61
 have F : Hid (tokV (s.data.toList.drop i) = .ok ⟨9, [], 0⟩ 2) := by show _ = _; rw [byte_cons hi, h58, byte_cons hi1, h61]; rfl
 have h0 : atV s i = 0 := by unfold atV; rw [dif_pos hi, ← byteU_lt hi, h58]; rfl
 obtain ⟨a, ha⟩ : ∃ a, a = (0 : Int) := ⟨_, rfl⟩
 rw [← ha] at h0
 have HA := Lib.hid h0
 have a1 : (a == 1) = false := by rw [ha]; rfl
 have a2 : (a == 2) = false := by rw [ha]; rfl
 have a3 : (a == 3) = false := by rw [ha]; rfl
 have a4 : (a == 4) = false := by rw [ha]; rfl
 have hx : s[i] = 58 := by rw [← byteU_lt hi, h58]
 have hy : s[i + 1] = 61 := by rw [← byteU_lt hi1, h61]
 have b0 : (0 : Int) ≤ (i : Int) := by omega
 have b1 : (i : Int) < (s.size : Int) := by omega
 have b2 : (i : Int) + 1 < (s.size : Int) := by omega
 have b3 : (0 : Int) ≤ (i : Int) + 1 := by omega
 have d1 : decide (i + 1 < s.size) = true := decide_eq_true hi1
 have d1' : decide ((i : Int) + 1 < (s.size : Int)) = true := decide_eq_true b2
 clear ha h0 h58 h61
 go_enter Try.func21, Try.ntmps21
 go_wp2_with (go_at_call 33; (with_reducible refine (rat_any _ _ _ hs).mono ?_); rw [HA.out]; rintro e w' ⟨rfl, rfl⟩)
 refine bodyPost_ret (v := .tuple #[.agg #[.int .i64 9, .string ⟨#[]⟩, .int .i64 0, .int .i64 i], .int .i64 ((i : Int) + 2), .int .i64 0]) (by simp [results, Try.results21, go_sem, *]) rfl ?_
 refine ⟨?_, .inr ⟨_, _, ⟨#[]⟩, F.out, rfl, rfl⟩⟩
 repeat' (first | (with_reducible exact World.grownBy.refl _ _) | (with_reducible assumption) | (with_reducible refine grown_alloc ?_ _) | (with_reducible refine grown_drewN ?_ _) | (with_reducible refine grown_setOwn ?_ ?_ _) | omega)
end Go.Proofs.Ytnojndgmgkgnpaa.Lx
/- Chapter 06: the reference's symbol: a name, keywords. -/
namespace Go.Proofs.Ytnojndgmgkgnpaa.Lx
open Go.ChangeShapes Go.WideShapes Go.ChangeAt Go.RowKit
set_option linter.unusedVariables false
set_option linter.unusedSimpArgs false
set_option maxHeartbeats 8000000 in
theorem rsym_name (s : ByteArray) (i : Nat) (w : World) (hs : s.size ≤ 100000) (hi : i + 1 ≤ s.size) (h40 : hd (· == 40) (s.data.toList.drop (i + 1)) = false) (hsg : hd signB (s.data.toList.drop (i + 1)) = false) (hlt : hd letB (s.data.toList.drop (i + 1)) = true) (h24 : ¬ nmLen (s.data.toList.drop (i + 1)) > 24) :
  Calls Try.prog 37 #[.string s, .agg #[.int .i64 0, .string ⟨#[]⟩, .int .i64 0, .int .i64 i]] w (RPost (hashV (s.data.toList.drop (i + 1))) w i (i + 1)) := by
 have H40 := Lib.hid h40
 have HS0 := Lib.hid (symAt0 hsg hlt h24)
 rw [hd_byte (p := (· == 40)) rfl] at h40
 rw [at_sign] at hsg
 rw [at_let] at hlt
 have hlt' : i + 1 < s.size := at_lt (by simpa using hlt) (by decide)
 obtain ⟨a, ha⟩ : ∃ a, atV s (i + 1) = a := ⟨_, rfl⟩
 have HA := Lib.hid ha
 rw [ha] at hsg hlt
 have nlt : (a != 1) = false := by unfold bne; rw [hlt]; rfl
 clear ha
 have hbn := nm_bd s (i + 1) hi
 obtain ⟨n, hn⟩ : ∃ n, nmLen (s.data.toList.drop (i + 1)) = n := ⟨_, rfl⟩
 have HN := Lib.hid hn
 rw [hn] at h24 hbn
 clear hn
 obtain ⟨q0, hq0⟩ : ∃ q0, q0 = i + 1 + n := ⟨_, rfl⟩
 have HQ := Lib.hid hq0
 have t24 : decide (24 < (q0 : Int) - ((i : Int) + 1)) = false := decide_eq_false (by omega)
 rw [← hq0] at hbn
 clear hq0
 have b3 : (0 : Int) ≤ (i : Int) + 1 := by omega
 rw [byteU_lt hlt'] at h40
 have d1 : decide (i + 1 < s.size) = true := decide_eq_true hlt'
 have d1' : decide ((i : Int) + 1 < (s.size : Int)) = true := decide_eq_true (by omega)
 have b2 : (i : Int) + 1 < (s.size : Int) := by omega
 obtain ⟨x, hx⟩ : ∃ x, s[i + 1] = x := ⟨_, rfl⟩
 rw [hx] at h40
 have e40 := u8_eq x 40 (by omega)
 rw [show (x == UInt8.ofNat 40) = false from h40] at e40
 have n40 : ((x.toNat : Int) == 40) = false := e40
 clear h40 e40
 go_enter Try.func37, Try.ntmps37
 go_wp2_with (first | (go_at_call 33; (with_reducible refine (rat1 _ _ _ hs).mono ?_); rw [HA.out]; rintro e w' ⟨rfl, rfl⟩) | (go_at_call 34; (with_reducible refine (rname1 _ _ _ hs hi).mono ?_); rw [HN.out, ← HQ.out]; rintro e w' ⟨rfl, rfl⟩))
 go_loop [9] (fun x => ∃ q : Nat, i + 1 ≤ q ∧ q ≤ s.size ∧ x = .int .i64 q ∧ SymAt (s.data.toList.drop (i + 1)) (q - (i + 1))) (fun x => s.size - (intOf x).toNat)
 case atStart =>
  have hq := HQ.out
  refine ⟨q0, by omega, hbn, rfl, ?_⟩
  rw [hq, show i + 1 + n - (i + 1) = n by omega, ← HN.out]
  exact HS0.out
 case round =>
  obtain ⟨q, hqi, hqs, rfl, hAt⟩ := hrel
  have HAT := Lib.hid hAt
  clear hAt hbn t24 HQ HS0 HN
  have hdl : ∀ k, (s.data.toList.drop (i + 1)).drop (q - (i + 1) + k) = s.data.toList.drop (q + k) := fun k => by rw [List.drop_drop, show i + 1 + (q - (i + 1) + k) = q + k by omega]
  have HDL := Lib.hid hdl
  have HDL0 : Hid ((s.data.toList.drop (i + 1)).drop (q - (i + 1)) = s.data.toList.drop q) := hdl 0
  clear hdl
  cases hc : colonB (s.data.toList.drop q)
  ·have HC := Lib.hid hc
   have F : Hid (hashV (s.data.toList.drop (i + 1)) = .ok ⟨6, (s.data.toList.drop (i + 1)).take (q - (i + 1)), 0⟩ (q - (i + 1))) := by show _ = _; rw [hash_sym H40.out, symAt_end HAT.out (by rw [HDL0.out]; exact HC.out)]
   have b4 : (q : Int) ≤ (s.size : Int) := by omega
   have b5 : (i : Int) + 1 ≤ (q : Int) := by omega
   have b6 : (0 : Int) ≤ (q : Int) := by omega
   have b7 : ((q : Int)).toNat = q := by omega
   have b8 : ((i : Int) + 1).toNat = i + 1 := by omega
   have b9 : i + 1 ≤ q := by omega
   have b10 : q ≤ s.size := by omega
   have hx := ext_list s (i + 1) (q - (i + 1))
   rw [show i + 1 + (q - (i + 1)) = q by omega] at hx
   have HX := Lib.hid hx
   obtain ⟨t, ht⟩ : ∃ t, s.extract (i + 1) (q) = t := ⟨_, rfl⟩
   have HT := Lib.hid ht
   clear hx hc
   go_wp2_with (first | (go_at_call 35; (with_reducible refine (rcolon_any s q _ hs).mono ?_); rw [HC.out]; rintro e w' ⟨rfl, rfl⟩))
   refine bodyPost_ret (v := .tuple #[.agg #[.int .i64 6, .string t, .int .i64 0, .int .i64 i], .int .i64 ((q : Int)), .int .i64 0]) (by simp [results, Try.results37, go_sem, *]) rfl ?_
   refine ⟨?_, .inr ⟨_, _, t, F.out, by rw [← HT.out]; exact HX.out, by rw [show i + 1 + (q - (i + 1)) = q by omega] <;> rfl⟩⟩
   (repeat' (first | (with_reducible exact World.grownBy.refl _ _) | (with_reducible assumption) | (with_reducible refine grown_alloc ?_ _) | (with_reducible refine grown_drewN ?_ _) | (with_reducible refine grown_setOwn ?_ ?_ _) | omega))
  ·have HC := Lib.hid hc
   have hq1 : q + 1 ≤ s.size := by
    have := colonB_lt hc
    simp at this
    have : s.data.size = s.size := rfl
    omega
   have g0 : (0 : Int) ≤ (q : Int) + 1 := by omega
   have HAL := Lib.hid (at_let s (q + 1))
   obtain ⟨a1, ha1⟩ : ∃ a1, atV s (q + 1) = a1 := ⟨_, rfl⟩
   have HA1 := Lib.hid ha1
   clear ha1
   cases hl : a1 == 1
   ·have nl : (a1 != 1) = true := by unfold bne; rw [hl]; rfl
    have HL : Hid (hd letB (s.data.toList.drop (q + 1)) = false) := by show _ = _; rw [HAL.out, HA1.out]; exact hl
    have F : Hid (hashV (s.data.toList.drop (i + 1)) = .ok ⟨6, (s.data.toList.drop (i + 1)).take (q + 1 - (i + 1)), 0⟩ (q + 1 - (i + 1))) := by show _ = _; rw [hash_sym H40.out, symAt_stop HAT.out (by rw [HDL0.out]; exact HC.out) (by rw [HDL.out, HL.out]; simp), show q - (i + 1) + 1 = q + 1 - (i + 1) by omega]
    have b4 : (q : Int) + 1 ≤ (s.size : Int) := by omega
    have b5 : (i : Int) + 1 ≤ (q : Int) + 1 := by omega
    have b6 : (0 : Int) ≤ (q : Int) + 1 := by omega
    have b7 : ((q : Int) + 1).toNat = q + 1 := by omega
    have b8 : ((i : Int) + 1).toNat = i + 1 := by omega
    have b9 : i + 1 ≤ q + 1 := by omega
    have b10 : q + 1 ≤ s.size := by omega
    have hx := ext_list s (i + 1) (q + 1 - (i + 1))
    rw [show i + 1 + (q + 1 - (i + 1)) = q + 1 by omega] at hx
    have HX := Lib.hid hx
    obtain ⟨t, ht⟩ : ∃ t, s.extract (i + 1) (q + 1) = t := ⟨_, rfl⟩
    have HT := Lib.hid ht
    clear hx hc
    go_wp2_with (first | (go_at_call 35; (with_reducible refine (rcolon_any s q _ hs).mono ?_); rw [HC.out]; rintro e w' ⟨rfl, rfl⟩) | (go_at_call 33; (with_reducible refine (rat1 s q _ hs).mono ?_); rw [HA1.out]; rintro e w' ⟨rfl, rfl⟩))
    refine bodyPost_ret (v := .tuple #[.agg #[.int .i64 6, .string t, .int .i64 0, .int .i64 i], .int .i64 ((q : Int) + 1), .int .i64 0]) (by simp [results, Try.results37, go_sem, *]) rfl ?_
    refine ⟨?_, .inr ⟨_, _, t, F.out, by rw [← HT.out]; exact HX.out, by rw [show i + 1 + (q + 1 - (i + 1)) = q + 1 by omega] <;> rfl⟩⟩
    (repeat' (first | (with_reducible exact World.grownBy.refl _ _) | (with_reducible assumption) | (with_reducible refine grown_alloc ?_ _) | (with_reducible refine grown_drewN ?_ _) | (with_reducible refine grown_setOwn ?_ ?_ _) | omega))
   ·have nl : (a1 != 1) = false := by unfold bne; rw [hl]; rfl
    have HL : Hid (hd letB (s.data.toList.drop (q + 1)) = true) := by show _ = _; rw [HAL.out, HA1.out]; exact hl
    have hbm := nm_bd s (q + 1) hq1
    obtain ⟨m, hm⟩ : ∃ m, nmLen (s.data.toList.drop (q + 1)) = m := ⟨_, rfl⟩
    have HM := Lib.hid hm
    rw [hm] at hbm
    clear hm
    obtain ⟨nx, hnx⟩ : ∃ nx, nx = q + 1 + m := ⟨_, rfl⟩
    have HNX := Lib.hid hnx
    rw [← hnx] at hbm
    cases hc2 : colonB (s.data.toList.drop (q + 1 + m))
    ·have HC2 : Hid (colonB (s.data.toList.drop nx) = false) := by show _ = _; rw [hnx]; exact hc2
     have HC3 := Lib.hid hc2
     clear hnx hc2
     have F : Hid (hashV (s.data.toList.drop (i + 1)) = .ok ⟨6, (s.data.toList.drop (i + 1)).take (q + 1 - (i + 1)), 0⟩ (q + 1 - (i + 1))) := by show _ = _; rw [hash_sym H40.out, symAt_stop HAT.out (by rw [HDL0.out]; exact HC.out) (by rw [Nat.add_assoc (q - (i + 1)) 1, HDL.out, HDL.out, HM.out, ← Nat.add_assoc, HC3.out]; simp), show q - (i + 1) + 1 = q + 1 - (i + 1) by omega]
     have b4 : (q : Int) + 1 ≤ (s.size : Int) := by omega
     have b5 : (i : Int) + 1 ≤ (q : Int) + 1 := by omega
     have b6 : (0 : Int) ≤ (q : Int) + 1 := by omega
     have b7 : ((q : Int) + 1).toNat = q + 1 := by omega
     have b8 : ((i : Int) + 1).toNat = i + 1 := by omega
     have b9 : i + 1 ≤ q + 1 := by omega
     have b10 : q + 1 ≤ s.size := by omega
     have hx := ext_list s (i + 1) (q + 1 - (i + 1))
     rw [show i + 1 + (q + 1 - (i + 1)) = q + 1 by omega] at hx
     have HX := Lib.hid hx
     obtain ⟨t, ht⟩ : ∃ t, s.extract (i + 1) (q + 1) = t := ⟨_, rfl⟩
     have HT := Lib.hid ht
     clear hx hc
     go_wp2_with (first | (go_at_call 35; (with_reducible refine (rcolon_any s q _ hs).mono ?_); rw [HC.out]; rintro e w' ⟨rfl, rfl⟩) | (go_at_call 33; (with_reducible refine (rat1 s q _ hs).mono ?_); rw [HA1.out]; rintro e w' ⟨rfl, rfl⟩) | (go_at_call 34; (with_reducible refine (rname1 s q _ hs hq1).mono ?_); rw [HM.out, ← HNX.out]; rintro e w' ⟨rfl, rfl⟩) | (go_at_call 35; (with_reducible refine (rcolon_any s nx _ hs).mono ?_); rw [HC2.out]; rintro e w' ⟨rfl, rfl⟩))
     refine bodyPost_ret (v := .tuple #[.agg #[.int .i64 6, .string t, .int .i64 0, .int .i64 i], .int .i64 ((q : Int) + 1), .int .i64 0]) (by simp [results, Try.results37, go_sem, *]) rfl ?_
     refine ⟨?_, .inr ⟨_, _, t, F.out, by rw [← HT.out]; exact HX.out, by rw [show i + 1 + (q + 1 - (i + 1)) = q + 1 by omega] <;> rfl⟩⟩
     (repeat' (first | (with_reducible exact World.grownBy.refl _ _) | (with_reducible assumption) | (with_reducible refine grown_alloc ?_ _) | (with_reducible refine grown_drewN ?_ _) | (with_reducible refine grown_setOwn ?_ ?_ _) | omega))
    ·have HC2 : Hid (colonB (s.data.toList.drop nx) = true) := by show _ = _; rw [hnx]; exact hc2
     have HC3 := Lib.hid hc2
     by_cases h24' : m > 24
     ·have F : Hid (hashV (s.data.toList.drop (i + 1)) = .err 12) := by
       show _ = _
       rw [hash_sym H40.out, symAt_long HAT.out (by rw [HDL0.out]; exact HC.out) (by rw [HDL.out]; exact HL.out) (by rw [Nat.add_assoc (q - (i + 1)) 1, HDL.out, HDL.out, HM.out, ← Nat.add_assoc]; exact HC3.out) (by rw [HDL.out, HM.out]; exact h24')]
      have t24' : decide (24 < (nx : Int) - ((q : Int) + 1)) = true := decide_eq_true (by omega)
      clear hnx hc2 hc
      go_wp2_with (first | (go_at_call 35; (with_reducible refine (rcolon_any s q _ hs).mono ?_); rw [HC.out]; rintro e w' ⟨rfl, rfl⟩) | (go_at_call 33; (with_reducible refine (rat1 s q _ hs).mono ?_); rw [HA1.out]; rintro e w' ⟨rfl, rfl⟩) | (go_at_call 34; (with_reducible refine (rname1 s q _ hs hq1).mono ?_); rw [HM.out, ← HNX.out]; rintro e w' ⟨rfl, rfl⟩) | (go_at_call 35; (with_reducible refine (rcolon_any s nx _ hs).mono ?_); rw [HC2.out]; rintro e w' ⟨rfl, rfl⟩))
      refine bodyPost_ret (v := .tuple #[.agg #[.int .i64 6, .string ⟨#[]⟩, .int .i64 0, .int .i64 i], .int .i64 0, .int .i64 12]) (by simp [results, Try.results37, go_sem, *]) rfl ?_
      refine ⟨?_, .inl ⟨_, F.out, _, _, _, rfl⟩⟩
      (repeat' (first | (with_reducible exact World.grownBy.refl _ _) | (with_reducible assumption) | (with_reducible refine grown_alloc ?_ _) | (with_reducible refine grown_drewN ?_ _) | (with_reducible refine grown_setOwn ?_ ?_ _) | omega))
     ·have F : Hid (SymAt (s.data.toList.drop (i + 1)) (nx - (i + 1))) := by
       show SymAt _ _
       have := symAt_next HAT.out (by rw [HDL0.out]; exact HC.out) (by rw [HDL.out]; exact HL.out) (by rw [Nat.add_assoc (q - (i + 1)) 1, HDL.out, HDL.out, HM.out, ← Nat.add_assoc]; exact HC3.out) (by rw [HDL.out, HM.out]; exact h24')
       rw [HDL.out, HM.out, show q - (i + 1) + 1 + m = nx - (i + 1) by omega] at this
       exact this
      have t24' : decide (24 < (nx : Int) - ((q : Int) + 1)) = false := decide_eq_false (by omega)
      have hmeas : s.size - nx < s.size - q := by omega
      have hin : i + 1 ≤ nx := by omega
      clear hnx hc2 hc
      go_wp2_with (first | (go_at_call 35; (with_reducible refine (rcolon_any s q _ hs).mono ?_); rw [HC.out]; rintro e w' ⟨rfl, rfl⟩) | (go_at_call 33; (with_reducible refine (rat1 s q _ hs).mono ?_); rw [HA1.out]; rintro e w' ⟨rfl, rfl⟩) | (go_at_call 34; (with_reducible refine (rname1 s q _ hs hq1).mono ?_); rw [HM.out, ← HNX.out]; rintro e w' ⟨rfl, rfl⟩) | (go_at_call 35; (with_reducible refine (rcolon_any s nx _ hs).mono ?_); rw [HC2.out]; rintro e w' ⟨rfl, rfl⟩))
      go_round
      case rel => exact ⟨nx, hin, hbm, rfl, F.out⟩
      case measure => simp [intOf]; omega
end Go.Proofs.Ytnojndgmgkgnpaa.Lx
/- Chapter 06: the reference's token: a hash. -/
namespace Go.Proofs.Ytnojndgmgkgnpaa.Lx
open Go.ChangeShapes Go.WideShapes Go.ChangeAt Go.RowKit
set_option linter.unusedVariables false
set_option linter.unusedSimpArgs false
theorem rsym_any (s : ByteArray) (i : Nat) (w : World) (hs : s.size ≤ 100000) (hi : i + 1 ≤ s.size) :
  Calls Try.prog 37 #[.string s, .agg #[.int .i64 0, .string ⟨#[]⟩, .int .i64 0, .int .i64 i]] w (RPost (hashV (s.data.toList.drop (i + 1))) w i (i + 1)) := by
 cases h40 : hd (· == 40) (s.data.toList.drop (i + 1))
 ·cases hsg : hd signB (s.data.toList.drop (i + 1))
  ·cases hlt : hd letB (s.data.toList.drop (i + 1))
   ·exact rsym_none s i w hs hi h40 hsg hlt
   ·by_cases h24 : nmLen (s.data.toList.drop (i + 1)) > 24
    ·exact rsym_long s i w hs hi h40 hsg hlt h24
    ·exact rsym_name s i w hs hi h40 hsg hlt h24
  ·cases hsg2 : hd signB (s.data.toList.drop (i + 1 + 1))
   ·exact rsym_sign1 s i w hs hi h40 hsg hsg2
   ·exact rsym_sign2 s i w hs hi h40 hsg hsg2
 ·exact rsym_arr s i w hs hi h40
theorem tok_hash (r : Bs) : tokV (35 :: r) = match hashV r with | .err e => .err e | .ok t n => .ok t (n + 1) := by
 show (if hd (· == 40) r then Took.ok (Tok.mk 7 [] 0) 2 else match symV r with | .err e => .err e | .ok t n => .ok ⟨6, t, 0⟩ (n + 1)) = _
 unfold hashV
 cases hd (· == 40) r
 ·rw [if_neg (by simp), if_neg (by simp)]
  cases symV r <;> rfl
 ·rw [if_pos rfl, if_pos rfl]
theorem rsymR (s : ByteArray) (i : Nat) (w : World) (hs : s.size ≤ 100000) (hi : i + 1 ≤ s.size) (h35 : byteU s i = 35) :
  Calls Try.prog 37 #[.string s, .agg #[.int .i64 0, .string ⟨#[]⟩, .int .i64 0, .int .i64 i]] w (RPost (tokV (s.data.toList.drop i)) w i i) := by
 refine (rsym_any s i w hs hi).mono ?_
 have hc : s.data.toList.drop i = 35 :: s.data.toList.drop (i + 1) := by rw [byte_cons hi, h35]
 rintro e w' ⟨hg, ⟨x, hn, k1, k2, k3, rfl⟩ | ⟨t, n, T, ht, hT, rfl⟩⟩
 ·exact ⟨hg, .inl ⟨x, by rw [hc, tok_hash, hn], _, _, _, rfl⟩⟩
 ·refine ⟨hg, .inr ⟨t, n + 1, T, by rw [hc, tok_hash, ht], hT, ?_⟩⟩
  rw [show i + 1 + n = i + (n + 1) by omega]
set_option maxRecDepth 100000 in
set_option maxHeartbeats 4000000 in
theorem rtok_hash (s : ByteArray) (i : Nat) (w : World) (hs : s.size ≤ 100000) (hi : i < s.size) (h35 : byteU s i = 35) :
  Calls Try.prog 21 #[.string s, .int .i64 i] w (RPost (tokV (s.data.toList.drop i)) w i i) := by
 have R := fun w' => rsymR s i w' hs hi h35
 have h0 : atV s i = 0 := by unfold atV; rw [dif_pos hi, ← byteU_lt hi, h35]; rfl
 obtain ⟨V, hV⟩ : ∃ V, tokV (s.data.toList.drop i) = V := ⟨_, rfl⟩
 rw [hV]
 rw [hV] at R
 obtain ⟨a, ha⟩ : ∃ a, a = (0 : Int) := ⟨_, rfl⟩
 rw [← ha] at h0
 have HA := Lib.hid h0
 have a1 : (a == 1) = false := by rw [ha]; rfl
 have a2 : (a == 2) = false := by rw [ha]; rfl
 have a3 : (a == 3) = false := by rw [ha]; rfl
 have a4 : (a == 4) = false := by rw [ha]; rfl
 have hx : s[i] = 35 := by rw [← byteU_lt hi, h35]
 have b0 : (0 : Int) ≤ (i : Int) := by omega
 have b1 : (i : Int) < (s.size : Int) := by omega
 clear ha h0 hV h35
 have v0 : ∀ o : Obj, ((w.alloc (.cells #[.int .i64 0, .string ⟨#[]⟩, .int .i64 0, .int .i64 0] 55)).alloc o).cell? ⟨w.heap.size, 0, none⟩ = some (.int .i64 0) := fun o => by simp [go_sem]
 have v1 : ∀ o : Obj, ((w.alloc (.cells #[.int .i64 0, .string ⟨#[]⟩, .int .i64 0, .int .i64 0] 55)).alloc o).cell? ⟨w.heap.size, 1, none⟩ = some (.string ⟨#[]⟩) := fun o => by simp [go_sem]
 have v2 : ∀ o : Obj, ((w.alloc (.cells #[.int .i64 0, .string ⟨#[]⟩, .int .i64 0, .int .i64 0] 55)).alloc o).cell? ⟨w.heap.size, 2, none⟩ = some (.int .i64 0) := fun o => by simp [go_sem]
 have v3 : ∀ o : Obj, ((w.alloc (.cells #[.int .i64 0, .string ⟨#[]⟩, .int .i64 0, .int .i64 0] 55)).alloc o).cell? ⟨w.heap.size, 3, none⟩ = some (.int .i64 0) := fun o => by simp [go_sem]
 have z0 : ∀ (o : Obj) (k : Nat), ((w.alloc (.cells #[.int .i64 0, .string ⟨#[]⟩, .int .i64 0, .int .i64 0] 55)).alloc o).frozen? ⟨w.heap.size, k, none⟩ = false := fun o k => by simp [go_sem]
 go_enter Try.func21, Try.ntmps21
 go_wp2_with (first | (go_at_call 33; (with_reducible refine (rat_any _ _ _ hs).mono ?_); rw [HA.out]; rintro e w' ⟨rfl, rfl⟩))
 (with_reducible refine (R _).mono ?_)
 rintro e w2 hR
 obtain ⟨k1, k2, k3, m, x, rfl⟩ := RPost.shape (V := V) (i := i) (base := i) hR
 have hbk := hR.1.block w.heap.size (by simp only [World.alloc, Array.size_push]; omega) (by simp)
 have cf := fun (o : Nat) => World.cell?_of_block (a := ⟨w.heap.size, o, none⟩) hbk
 have ff := fun (o : Nat) => World.frozen?_of_block (a := ⟨w.heap.size, o, none⟩) hbk
 have c0 := (cf 0).trans (v0 _)
 have c1 := (cf 1).trans (v1 _)
 have c2 := (cf 2).trans (v2 _)
 have c3 := (cf 3).trans (v3 _)
 have f0 := (ff 0).trans (z0 _ 0)
 have f1 := (ff 1).trans (z0 _ 1)
 have f2 := (ff 2).trans (z0 _ 2)
 have f3 := (ff 3).trans (z0 _ 3)
 go_wp2
 refine bodyPost_ret (v := .tuple #[.agg #[.int .i64 k1, .string k2, .int .i64 k3, .int .i64 i], .int .i64 m, .int .i64 x]) (by simp [results, Try.results21, go_sem, *]) rfl ?_
 refine ⟨?_, hR.2⟩
 have g0 : w.grownBy w2 none := ((World.grownBy_alloc _ _ _).trans (World.grownBy_alloc _ _ _)).trans hR.1
 repeat' (first | (with_reducible assumption) | (with_reducible refine grown_drewN ?_ _) | (with_reducible refine grown_setOwn ?_ ?_ _) | omega)
end Go.Proofs.Ytnojndgmgkgnpaa.Lx
/- Chapter 06: a token: names. -/
namespace Go.Proofs.Ytnojndgmgkgnpaa.Lx
open Go.ChangeShapes Go.WideShapes Go.ChangeAt Go.RowKit
set_option linter.unusedVariables false
set_option linter.unusedSimpArgs false

theorem tok_wrd {c : UInt8} {r : Bs} (h : letB c = true) : tokV (c :: r) = wrdV (c :: r) := by simp only [tokV]; rw [if_pos h]
theorem wrd_long {l : Bs} (h : nmLen l > 24) : wrdV l = .err 12 := by unfold wrdV; rw [if_pos h]
theorem wrd_kw {l : Bs} (h : ¬ nmLen l > 24) (hc : colonB (l.drop (nmLen l)) = true) : wrdV l = .ok ⟨2, l.take (nmLen l + 1), 0⟩ (nmLen l + 1) := by unfold wrdV; rw [if_neg h, if_pos hc]
theorem wrd_nm {l : Bs} (h : ¬ nmLen l > 24) (hc : colonB (l.drop (nmLen l)) = false) : wrdV l = .ok ⟨1, l.take (nmLen l), 0⟩ (nmLen l) := by unfold wrdV; rw [if_neg h, if_neg (by simp [hc])]
end Go.Proofs.Ytnojndgmgkgnpaa.Lx
/- Chapter 06: the reference's token: names. -/
namespace Go.Proofs.Ytnojndgmgkgnpaa.Lx
open Go.ChangeShapes Go.WideShapes Go.ChangeAt Go.RowKit
set_option linter.unusedVariables false
set_option linter.unusedSimpArgs false
set_option maxRecDepth 100000 in
set_option maxHeartbeats 4000000 in
theorem rtok_long (s : ByteArray) (i : Nat) (w : World) (hs : s.size ≤ 100000) (hi : i < s.size) (hlt : hd letB (s.data.toList.drop i) = true) (n : Nat) (hn : nmLen (s.data.toList.drop i) = n) (h24 : n > 24) :
  Calls Try.prog 21 #[.string s, .int .i64 i] w (RPost (tokV (s.data.toList.drop i)) w i i) := by
 have F : Hid (tokV (s.data.toList.drop i) = .err 12) := by
  show _ = _
  obtain ⟨c, r, hcr, hl⟩ := hd_cons hlt
  rw [hcr] at hn ⊢
  rw [tok_wrd hl, wrd_long (by rw [hn]; exact h24)]
 obtain ⟨a, ha⟩ : ∃ a, a = (1 : Int) := ⟨_, rfl⟩
 have HA : Hid (atV s i = a) := by show _ = _; rw [ha]; have := at_let s i; rw [hlt] at this; simpa using this.symm
 have a1 : (a == 1) = true := by rw [ha]; rfl
 clear ha
 have hbn := nm_bd s i (Nat.le_of_lt hi)
 rw [hn] at hbn
 have HN := Lib.hid hn
 obtain ⟨q, hq⟩ : ∃ q, q = i + n := ⟨_, rfl⟩
 have HQ := Lib.hid hq
 rw [← hq] at hbn
 have t24 : decide (24 < (q : Int) - (i : Int)) = true := decide_eq_true (by omega)
 have hi' : i ≤ s.size := by omega
 clear hq hn hlt
 go_enter Try.func21, Try.ntmps21
 go_wp2_with (first | (go_at_call 33; (with_reducible refine (rat_any _ _ _ hs).mono ?_); rw [HA.out]; rintro e w' ⟨rfl, rfl⟩) | (go_at_call 34; (with_reducible refine (rname_any _ _ _ hs hi').mono ?_); rw [HN.out, ← HQ.out]; rintro e w' ⟨rfl, rfl⟩))
 refine bodyPost_ret (v := .tuple #[.agg #[.int .i64 0, .string ⟨#[]⟩, .int .i64 0, .int .i64 i], .int .i64 (0), .int .i64 12]) (by simp [results, Try.results21, go_sem, *]) rfl ?_
 refine ⟨?_, .inl ⟨_, F.out, _, _, _, rfl⟩⟩
 (repeat' (first | (with_reducible exact World.grownBy.refl _ _) | (with_reducible assumption) | (with_reducible refine grown_alloc ?_ _) | (with_reducible refine grown_drewN ?_ _) | (with_reducible refine grown_setOwn ?_ ?_ _) | omega))
set_option maxRecDepth 100000 in
set_option maxHeartbeats 4000000 in
theorem rtok_name (s : ByteArray) (i : Nat) (w : World) (hs : s.size ≤ 100000) (hi : i < s.size) (hlt : hd letB (s.data.toList.drop i) = true) (n : Nat) (hn : nmLen (s.data.toList.drop i) = n) (h24 : ¬ n > 24) (hc : colonB (s.data.toList.drop (i + n)) = false) :
  Calls Try.prog 21 #[.string s, .int .i64 i] w (RPost (tokV (s.data.toList.drop i)) w i i) := by
 have F : Hid (tokV (s.data.toList.drop i) = .ok ⟨1, (s.data.toList.drop i).take (n), 0⟩ (n)) := by
  show _ = _
  obtain ⟨c, r, hcr, hl⟩ := hd_cons hlt
  rw [← List.drop_drop] at hc
  rw [hcr] at hn hc ⊢
  rw [tok_wrd hl, wrd_nm (by rw [hn]; exact h24) (by rw [hn]; exact hc), hn]
 obtain ⟨a, ha⟩ : ∃ a, a = (1 : Int) := ⟨_, rfl⟩
 have HA : Hid (atV s i = a) := by show _ = _; rw [ha]; have := at_let s i; rw [hlt] at this; simpa using this.symm
 have a1 : (a == 1) = true := by rw [ha]; rfl
 clear ha
 have hbn := nm_bd s i (Nat.le_of_lt hi)
 rw [hn] at hbn
 have HN := Lib.hid hn
 obtain ⟨q, hq⟩ : ∃ q, q = i + n := ⟨_, rfl⟩
 have HQ := Lib.hid hq
 rw [← hq] at hbn
 have HC : Hid (colonB (s.data.toList.drop q) = false) := by show _ = _; rw [hq]; exact hc
 have t24 : decide (24 < (q : Int) - (i : Int)) = false := decide_eq_false (by omega)
 have hi' : i ≤ s.size := by omega
 have b1 : (q : Int) ≤ (s.size : Int) := by omega
 have b2 : (i : Int) ≤ (q : Int) := by omega
 have b3 : (0 : Int) ≤ (q : Int) := by omega
 have b4 : ((q : Int)).toNat = q := by omega
 have b4' : ((i : Int)).toNat = i := by omega
 have b5 : i ≤ q := by omega
 have b6 : q ≤ s.size := by omega
 have b7 : (0 : Int) ≤ (i : Int) := by omega
 have hx := ext_list s (i) (n)
 rw [show i + (n) = q by omega] at hx
 have HX := Lib.hid hx
 obtain ⟨t, ht⟩ : ∃ t, s.extract (i) (q) = t := ⟨_, rfl⟩
 have HT := Lib.hid ht
 clear hx
 clear hq hn hc hlt
 go_enter Try.func21, Try.ntmps21
 go_wp2_with (first | (go_at_call 33; (with_reducible refine (rat_any _ _ _ hs).mono ?_); rw [HA.out]; rintro e w' ⟨rfl, rfl⟩) | (go_at_call 34; (with_reducible refine (rname_any _ _ _ hs hi').mono ?_); rw [HN.out, ← HQ.out]; rintro e w' ⟨rfl, rfl⟩) | (go_at_call 35; (with_reducible refine (rcolon_any s q _ hs).mono ?_); rw [HC.out]; rintro e w' ⟨rfl, rfl⟩))
 refine bodyPost_ret (v := .tuple #[.agg #[.int .i64 1, .string t, .int .i64 0, .int .i64 i], .int .i64 ((q : Int)), .int .i64 0]) (by simp [results, Try.results21, go_sem, *]) rfl ?_
 refine ⟨?_, .inr ⟨_, _, t, F.out, by rw [← HT.out]; exact HX.out, by have := HQ.out; rw [show i + (n) = q by omega] <;> rfl⟩⟩
 (repeat' (first | (with_reducible exact World.grownBy.refl _ _) | (with_reducible assumption) | (with_reducible refine grown_alloc ?_ _) | (with_reducible refine grown_drewN ?_ _) | (with_reducible refine grown_setOwn ?_ ?_ _) | omega))
set_option maxRecDepth 100000 in
set_option maxHeartbeats 4000000 in
theorem rtok_kw (s : ByteArray) (i : Nat) (w : World) (hs : s.size ≤ 100000) (hi : i < s.size) (hlt : hd letB (s.data.toList.drop i) = true) (n : Nat) (hn : nmLen (s.data.toList.drop i) = n) (h24 : ¬ n > 24) (hc : colonB (s.data.toList.drop (i + n)) = true) :
  Calls Try.prog 21 #[.string s, .int .i64 i] w (RPost (tokV (s.data.toList.drop i)) w i i) := by
 have F : Hid (tokV (s.data.toList.drop i) = .ok ⟨2, (s.data.toList.drop i).take (n + 1), 0⟩ (n + 1)) := by
  show _ = _
  obtain ⟨c, r, hcr, hl⟩ := hd_cons hlt
  rw [← List.drop_drop] at hc
  rw [hcr] at hn hc ⊢
  rw [tok_wrd hl, wrd_kw (by rw [hn]; exact h24) (by rw [hn]; exact hc), hn]
 obtain ⟨a, ha⟩ : ∃ a, a = (1 : Int) := ⟨_, rfl⟩
 have HA : Hid (atV s i = a) := by show _ = _; rw [ha]; have := at_let s i; rw [hlt] at this; simpa using this.symm
 have a1 : (a == 1) = true := by rw [ha]; rfl
 clear ha
 have hbn := nm_bd s i (Nat.le_of_lt hi)
 rw [hn] at hbn
 have HN := Lib.hid hn
 obtain ⟨q, hq⟩ : ∃ q, q = i + n := ⟨_, rfl⟩
 have HQ := Lib.hid hq
 rw [← hq] at hbn
 have HC : Hid (colonB (s.data.toList.drop q) = true) := by show _ = _; rw [hq]; exact hc
 have hq1 : q + 1 ≤ s.size := by
  have := colonB_lt HC.out
  simp at this
  have : s.data.size = s.size := rfl
  omega
 have t24 : decide (24 < (q : Int) - (i : Int)) = false := decide_eq_false (by omega)
 have hi' : i ≤ s.size := by omega
 have b1 : (q : Int) + 1 ≤ (s.size : Int) := by omega
 have b2 : (i : Int) ≤ (q : Int) + 1 := by omega
 have b3 : (0 : Int) ≤ (q : Int) + 1 := by omega
 have b4 : ((q : Int) + 1).toNat = q + 1 := by omega
 have b4' : ((i : Int)).toNat = i := by omega
 have b5 : i ≤ q + 1 := by omega
 have b6 : q + 1 ≤ s.size := by omega
 have b7 : (0 : Int) ≤ (i : Int) := by omega
 have hx := ext_list s (i) (n + 1)
 rw [show i + (n + 1) = q + 1 by omega] at hx
 have HX := Lib.hid hx
 obtain ⟨t, ht⟩ : ∃ t, s.extract (i) (q + 1) = t := ⟨_, rfl⟩
 have HT := Lib.hid ht
 clear hx
 clear hq hn hc hlt
 go_enter Try.func21, Try.ntmps21
 go_wp2_with (first | (go_at_call 33; (with_reducible refine (rat_any _ _ _ hs).mono ?_); rw [HA.out]; rintro e w' ⟨rfl, rfl⟩) | (go_at_call 34; (with_reducible refine (rname_any _ _ _ hs hi').mono ?_); rw [HN.out, ← HQ.out]; rintro e w' ⟨rfl, rfl⟩) | (go_at_call 35; (with_reducible refine (rcolon_any s q _ hs).mono ?_); rw [HC.out]; rintro e w' ⟨rfl, rfl⟩))
 refine bodyPost_ret (v := .tuple #[.agg #[.int .i64 2, .string t, .int .i64 0, .int .i64 i], .int .i64 ((q : Int) + 1), .int .i64 0]) (by simp [results, Try.results21, go_sem, *]) rfl ?_
 refine ⟨?_, .inr ⟨_, _, t, F.out, by rw [← HT.out]; exact HX.out, by have := HQ.out; rw [show i + (n + 1) = q + 1 by omega] <;> rfl⟩⟩
 (repeat' (first | (with_reducible exact World.grownBy.refl _ _) | (with_reducible assumption) | (with_reducible refine grown_alloc ?_ _) | (with_reducible refine grown_drewN ?_ _) | (with_reducible refine grown_setOwn ?_ ?_ _) | omega))
end Go.Proofs.Ytnojndgmgkgnpaa.Lx
/- Chapter 06: the reference's token: parameters. -/
namespace Go.Proofs.Ytnojndgmgkgnpaa.Lx
open Go.ChangeShapes Go.WideShapes Go.ChangeAt Go.RowKit
set_option linter.unusedVariables false
set_option linter.unusedSimpArgs false
set_option maxRecDepth 100000 in
set_option maxHeartbeats 4000000 in
theorem rtok_par_long (s : ByteArray) (i : Nat) (w : World) (hs : s.size ≤ 100000) (hi : i < s.size) (h58 : byteU s i = 58) (h61 : (byteU s (i + 1) == 61) = false) (hlt : hd letB (s.data.toList.drop (i + 1)) = true) (n : Nat) (hn : nmLen (s.data.toList.drop (i + 1)) = n) (h24 : n > 24) :
  Calls Try.prog 21 #[.string s, .int .i64 i] w (RPost (tokV (s.data.toList.drop i)) w i i) := by
 have hi1 : i + 1 < s.size := by
  have := hd_pos hlt
  simp at this
  have : s.data.size = s.size := rfl
  omega
 have F : Hid (tokV (s.data.toList.drop i) = .err 12) := by
  show _ = _
  rw [byte_cons hi, h58]
  show (if hd (· == 61) (s.data.toList.drop (i + 1)) then Took.ok (Tok.mk 9 [] 0) 2 else if hd letB (s.data.toList.drop (i + 1)) then (if nmLen (s.data.toList.drop (i + 1)) > 24 then .err 12 else .ok ⟨8, (s.data.toList.drop (i + 1)).take (nmLen (s.data.toList.drop (i + 1))), 0⟩ (nmLen (s.data.toList.drop (i + 1)) + 1)) else .err 10) = _
  rw [hd_byte (p := (· == 61)) rfl, if_neg (by rw [h61]; simp), if_pos hlt, hn, if_pos h24]
 have h0 : atV s i = 0 := by unfold atV; rw [dif_pos hi, ← byteU_lt hi, h58]; rfl
 obtain ⟨a, ha⟩ : ∃ a, a = (0 : Int) := ⟨_, rfl⟩
 rw [← ha] at h0
 have HA := Lib.hid h0
 have a1 : (a == 1) = false := by rw [ha]; rfl
 have a2 : (a == 2) = false := by rw [ha]; rfl
 have a3 : (a == 3) = false := by rw [ha]; rfl
 have a4 : (a == 4) = false := by rw [ha]; rfl
 have hx : s[i] = 58 := by rw [← byteU_lt hi, h58]
 have b0 : (0 : Int) ≤ (i : Int) := by omega
 have b01 : (i : Int) < (s.size : Int) := by omega
 have b02 : (i : Int) + 1 < (s.size : Int) := by omega
 have b03 : (0 : Int) ≤ (i : Int) + 1 := by omega
 have d1 : decide (i + 1 < s.size) = true := decide_eq_true hi1
 have d1' : decide ((i : Int) + 1 < (s.size : Int)) = true := decide_eq_true b02
 obtain ⟨y, hy⟩ : ∃ y, s[i + 1] = y := ⟨_, rfl⟩
 have hyb : byteU s (i + 1) = y := by rw [byteU_lt hi1, hy]
 have e61 := u8_eq y 61 (by omega)
 rw [show (y == UInt8.ofNat 61) = false from by rw [← hyb]; exact h61] at e61
 have n61 : ((y.toNat : Int) == 61) = false := e61
 obtain ⟨a', ha'⟩ : ∃ a', a' = (1 : Int) := ⟨_, rfl⟩
 have HA' : Hid (atV s (i + 1) = a') := by show _ = _; rw [ha']; have := at_let s (i + 1); rw [hlt] at this; simpa using this.symm
 have a1' : (a' == 1) = true := by rw [ha']; rfl
 have hbn := nm_bd s (i + 1) (Nat.le_of_lt hi1)
 rw [hn] at hbn
 have HN := Lib.hid hn
 obtain ⟨q, hq⟩ : ∃ q, q = i + 1 + n := ⟨_, rfl⟩
 have HQ := Lib.hid hq
 rw [← hq] at hbn
 have hi1' : i + 1 ≤ s.size := by omega
 have t24 : decide (24 < (q : Int) - (i : Int) - 1) = true := by exact decide_eq_true (by omega)
 clear hq hn hlt h61 e61 ha ha' h0 h58 hyb
 go_enter Try.func21, Try.ntmps21
 go_wp2_with (first | (go_at_call 33; (with_reducible refine (rat_any _ _ _ hs).mono ?_); rw [HA.out]; rintro e w' ⟨rfl, rfl⟩) | (go_at_call 33; (with_reducible refine (rat1 s i _ hs).mono ?_); rw [HA'.out]; rintro e w' ⟨rfl, rfl⟩) | (go_at_call 34; (with_reducible refine (rname1 s i _ hs hi1').mono ?_); rw [HN.out, ← HQ.out]; rintro e w' ⟨rfl, rfl⟩))
 refine bodyPost_ret (v := .tuple #[.agg #[.int .i64 0, .string ⟨#[]⟩, .int .i64 0, .int .i64 i], .int .i64 (0), .int .i64 12]) (by simp [results, Try.results21, go_sem, *]) rfl ?_
 refine ⟨?_, .inl ⟨_, F.out, _, _, _, rfl⟩⟩
 (repeat' (first | (with_reducible exact World.grownBy.refl _ _) | (with_reducible assumption) | (with_reducible refine grown_alloc ?_ _) | (with_reducible refine grown_drewN ?_ _) | (with_reducible refine grown_setOwn ?_ ?_ _) | omega))
set_option maxRecDepth 100000 in
set_option maxHeartbeats 4000000 in
theorem rtok_par (s : ByteArray) (i : Nat) (w : World) (hs : s.size ≤ 100000) (hi : i < s.size) (h58 : byteU s i = 58) (h61 : (byteU s (i + 1) == 61) = false) (hlt : hd letB (s.data.toList.drop (i + 1)) = true) (n : Nat) (hn : nmLen (s.data.toList.drop (i + 1)) = n) (h24 : ¬ n > 24) :
  Calls Try.prog 21 #[.string s, .int .i64 i] w (RPost (tokV (s.data.toList.drop i)) w i i) := by
 have hi1 : i + 1 < s.size := by
  have := hd_pos hlt
  simp at this
  have : s.data.size = s.size := rfl
  omega
 have F : Hid (tokV (s.data.toList.drop i) = .ok ⟨8, (s.data.toList.drop (i + 1)).take n, 0⟩ (n + 1)) := by
  show _ = _
  rw [byte_cons hi, h58]
  show (if hd (· == 61) (s.data.toList.drop (i + 1)) then Took.ok (Tok.mk 9 [] 0) 2 else if hd letB (s.data.toList.drop (i + 1)) then (if nmLen (s.data.toList.drop (i + 1)) > 24 then .err 12 else .ok ⟨8, (s.data.toList.drop (i + 1)).take (nmLen (s.data.toList.drop (i + 1))), 0⟩ (nmLen (s.data.toList.drop (i + 1)) + 1)) else .err 10) = _
  rw [hd_byte (p := (· == 61)) rfl, if_neg (by rw [h61]; simp), if_pos hlt, hn, if_neg h24]
 have h0 : atV s i = 0 := by unfold atV; rw [dif_pos hi, ← byteU_lt hi, h58]; rfl
 obtain ⟨a, ha⟩ : ∃ a, a = (0 : Int) := ⟨_, rfl⟩
 rw [← ha] at h0
 have HA := Lib.hid h0
 have a1 : (a == 1) = false := by rw [ha]; rfl
 have a2 : (a == 2) = false := by rw [ha]; rfl
 have a3 : (a == 3) = false := by rw [ha]; rfl
 have a4 : (a == 4) = false := by rw [ha]; rfl
 have hx : s[i] = 58 := by rw [← byteU_lt hi, h58]
 have b0 : (0 : Int) ≤ (i : Int) := by omega
 have b01 : (i : Int) < (s.size : Int) := by omega
 have b02 : (i : Int) + 1 < (s.size : Int) := by omega
 have b03 : (0 : Int) ≤ (i : Int) + 1 := by omega
 have d1 : decide (i + 1 < s.size) = true := decide_eq_true hi1
 have d1' : decide ((i : Int) + 1 < (s.size : Int)) = true := decide_eq_true b02
 obtain ⟨y, hy⟩ : ∃ y, s[i + 1] = y := ⟨_, rfl⟩
 have hyb : byteU s (i + 1) = y := by rw [byteU_lt hi1, hy]
 have e61 := u8_eq y 61 (by omega)
 rw [show (y == UInt8.ofNat 61) = false from by rw [← hyb]; exact h61] at e61
 have n61 : ((y.toNat : Int) == 61) = false := e61
 obtain ⟨a', ha'⟩ : ∃ a', a' = (1 : Int) := ⟨_, rfl⟩
 have HA' : Hid (atV s (i + 1) = a') := by show _ = _; rw [ha']; have := at_let s (i + 1); rw [hlt] at this; simpa using this.symm
 have a1' : (a' == 1) = true := by rw [ha']; rfl
 have hbn := nm_bd s (i + 1) (Nat.le_of_lt hi1)
 rw [hn] at hbn
 have HN := Lib.hid hn
 obtain ⟨q, hq⟩ : ∃ q, q = i + 1 + n := ⟨_, rfl⟩
 have HQ := Lib.hid hq
 rw [← hq] at hbn
 have hi1' : i + 1 ≤ s.size := by omega
 have t24 : decide (24 < (q : Int) - (i : Int) - 1) = false := by exact decide_eq_false (by omega)
 have b1 : (q : Int) ≤ (s.size : Int) := by omega
 have b2 : (i : Int) + 1 ≤ (q : Int) := by omega
 have b3 : (0 : Int) ≤ (q : Int) := by omega
 have b4 : ((q : Int)).toNat = q := by omega
 have b4' : ((i : Int) + 1).toNat = i + 1 := by omega
 have b5 : i + 1 ≤ q := by omega
 have b6 : q ≤ s.size := by omega
 have b7 : (0 : Int) ≤ (i : Int) + 1 := by omega
 have hx := ext_list s (i + 1) (n)
 rw [show i + 1 + (n) = q by omega] at hx
 have HX := Lib.hid hx
 obtain ⟨t, ht⟩ : ∃ t, s.extract (i + 1) (q) = t := ⟨_, rfl⟩
 have HT := Lib.hid ht
 clear hx
 clear hq hn hlt h61 e61 ha ha' h0 h58 hyb
 go_enter Try.func21, Try.ntmps21
 go_wp2_with (first | (go_at_call 33; (with_reducible refine (rat_any _ _ _ hs).mono ?_); rw [HA.out]; rintro e w' ⟨rfl, rfl⟩) | (go_at_call 33; (with_reducible refine (rat1 s i _ hs).mono ?_); rw [HA'.out]; rintro e w' ⟨rfl, rfl⟩) | (go_at_call 34; (with_reducible refine (rname1 s i _ hs hi1').mono ?_); rw [HN.out, ← HQ.out]; rintro e w' ⟨rfl, rfl⟩))
 refine bodyPost_ret (v := .tuple #[.agg #[.int .i64 8, .string t, .int .i64 0, .int .i64 i], .int .i64 ((q : Int)), .int .i64 0]) (by simp [results, Try.results21, go_sem, *]) rfl ?_
 refine ⟨?_, .inr ⟨_, _, t, F.out, by rw [← HT.out]; exact HX.out, by have := HQ.out; rw [show i + (n + 1) = q by omega] <;> rfl⟩⟩
 (repeat' (first | (with_reducible exact World.grownBy.refl _ _) | (with_reducible assumption) | (with_reducible refine grown_alloc ?_ _) | (with_reducible refine grown_drewN ?_ _) | (with_reducible refine grown_setOwn ?_ ?_ _) | omega))
end Go.Proofs.Ytnojndgmgkgnpaa.Lx
/- Chapter 06: the reference's token: a number. -/
namespace Go.Proofs.Ytnojndgmgkgnpaa.Lx
open Go.ChangeShapes Go.WideShapes Go.ChangeAt Go.RowKit
set_option linter.unusedVariables false
set_option linter.unusedSimpArgs false
/-- the answer's box, and a token's behind it -/
structure NBox (w wr : World) (v : Int) (i : Nat) : Prop where
 c0 : wr.cell? ⟨w.heap.size + 1, 0, none⟩ = some (.int .i64 4)
 c1 : wr.cell? ⟨w.heap.size + 1, 1, none⟩ = some (.string ⟨#[]⟩)
 c2 : wr.cell? ⟨w.heap.size + 1, 2, none⟩ = some (.int .i64 v)
 c3 : wr.cell? ⟨w.heap.size + 1, 3, none⟩ = some (.int .i64 i)
 r0 : wr.cell? ⟨w.heap.size, 0, none⟩ = some (.int .i64 0)
 r1 : wr.cell? ⟨w.heap.size, 1, none⟩ = some (.string ⟨#[]⟩)
 r2 : wr.cell? ⟨w.heap.size, 2, none⟩ = some (.int .i64 0)
 r3 : wr.cell? ⟨w.heap.size, 3, none⟩ = some (.int .i64 0)
 f2 : wr.frozen? ⟨w.heap.size + 1, 2, none⟩ = false
 g0 : wr.frozen? ⟨w.heap.size, 0, none⟩ = false
 g1 : wr.frozen? ⟨w.heap.size, 1, none⟩ = false
 g2 : wr.frozen? ⟨w.heap.size, 2, none⟩ = false
 g3 : wr.frozen? ⟨w.heap.size, 3, none⟩ = false
 sz : w.heap.size + 2 ≤ wr.heap.size
 grown : w.grownBy wr none
theorem NBox.put {w wr : World} {v : Int} {i : Nat} (h : NBox w wr v i) (x : Int) : NBox w (wr.setCell ⟨w.heap.size + 1, 2, none⟩ (.int .i64 x)) x i where
 c0 := (World.cell?_setCell_other _ _ _ _ (by simp)).trans h.c0
 c1 := (World.cell?_setCell_other _ _ _ _ (by simp)).trans h.c1
 c2 := World.cell?_setCell_same _ _ _ h.c2
 c3 := (World.cell?_setCell_other _ _ _ _ (by simp)).trans h.c3
 r0 := (World.cell?_setCell_other _ _ _ _ (by simp)).trans h.r0
 r1 := (World.cell?_setCell_other _ _ _ _ (by simp)).trans h.r1
 r2 := (World.cell?_setCell_other _ _ _ _ (by simp)).trans h.r2
 r3 := (World.cell?_setCell_other _ _ _ _ (by simp)).trans h.r3
 f2 := (World.frozen?_setCell _ _ _ _).trans h.f2
 g0 := (World.frozen?_setCell _ _ _ _).trans h.g0
 g1 := (World.frozen?_setCell _ _ _ _).trans h.g1
 g2 := (World.frozen?_setCell _ _ _ _).trans h.g2
 g3 := (World.frozen?_setCell _ _ _ _).trans h.g3
 sz := by have := h.sz; simpa using this
 grown := grown_setOwn h.grown (by omega) _
theorem let_dig {c : UInt8} (h : digB c = true) : letB c = false := by
 cases hl : letB c
 ·rfl
 ·have h1 := let_eq c
  have h2 := dig_eq c
  rw [hl] at h1
  rw [h] at h2
  have h1' := h1.symm
  have h2' := h2.symm
  simp only [Bool.or_eq_true, Bool.and_eq_true, decide_eq_true_eq] at h1' h2'
  omega
theorem kind_digit (c : UInt8) : (kindV c == 2) = digB c := by
 unfold kindV
 cases hd : digB c
 ·cases letB c <;> cases blankB c <;> cases signB c <;> cases markB c <;> rfl
 ·rw [let_dig hd]; rfl
theorem at_dig (s : ByteArray) (i : Nat) : hd digB (s.data.toList.drop i) = (atV s i == 2) := by
 unfold atV
 by_cases h : i < s.size
 ·rw [dif_pos h, hd_drop h, kind_digit]
 ·rw [dif_neg h, hd_end (by omega)]; rfl
theorem dig_len_step {c : UInt8} {r : Bs} (h : digB c = true) : digLen (c :: r) = digLen r + 1 := by simp [digLen, h]
theorem dig_len_end {l : Bs} (h : hd digB l = false) : digLen l = 0 := by
 cases l with
 | nil => rfl
 | cons c r => simp [hd] at h; simp [digLen, h]
theorem num_end {l : Bs} (h : hd digB l = false) (v : Int) : numV l v = some v := by
 cases l with
 | nil => rfl
 | cons c r => simp [hd] at h; simp [numV, h]
theorem tok_num0 {l : Bs} (h : hd digB l = true) : tokV l = match numV l 0 with | none => .err 2 | some n => .ok ⟨4, [], n⟩ (digLen l) := by
 obtain ⟨c, r, rfl, hc⟩ := hd_cons h
 simp only [tokV]
 rw [if_neg (by simp [let_dig hc]), if_pos hc]
 all_goals (cases numV (c :: r) 0 <;> rfl)
def NRel (w : World) (s : ByteArray) (i g : Nat) (o : Value) (wr : World) : Prop :=
 ∃ (j : Nat) (v : Int), o = .int .i64 j ∧ g + j = s.size ∧ i ≤ j ∧ 0 ≤ v ∧ v ≤ 1152921504606846976 ∧ numV (s.data.toList.drop i) 0 = numV (s.data.toList.drop j) v ∧ digLen (s.data.toList.drop i) = digLen (s.data.toList.drop j) + (j - i) ∧ NBox w wr v i
set_option maxRecDepth 100000 in
set_option maxHeartbeats 8000000 in
theorem rtok_num (s : ByteArray) (i : Nat) (w : World) (hs : s.size ≤ 100000) (hi : i < s.size) (hdg : hd digB (s.data.toList.drop i) = true) :
  Calls Try.prog 21 #[.string s, .int .i64 i] w (RPost (tokV (s.data.toList.drop i)) w i i) := by
 have HT := Lib.hid (tok_num0 hdg)
 obtain ⟨a, ha⟩ : ∃ a, a = (2 : Int) := ⟨_, rfl⟩
 have HA : Hid (atV s i = a) := by show _ = _; rw [ha]; have := at_dig s i; rw [hdg] at this; simpa using this.symm
 have a1 : (a == 1) = false := by rw [ha]; rfl
 have a2 : (a == 2) = true := by rw [ha]; rfl
 clear ha hdg
 go_enter Try.func21, Try.ntmps21
 go_wp2_with (first | (go_at_call 33; (with_reducible refine (rat_any _ _ _ hs).mono ?_); rw [HA.out]; rintro e w' ⟨rfl, rfl⟩))
 go_loopg [1] (s.size - i) (fun g o wr => NRel w s i g o wr)
 case atStart =>
  refine ⟨i, 0, rfl, by omega, by omega, by omega, by omega, rfl, by simp, ?_⟩
  exact { c0 := by (first | assumption | (simp [go_sem]; done) | (simp [go_sem, *]; done)), c1 := by (first | assumption | (simp [go_sem]; done) | (simp [go_sem, *]; done)), c2 := by (first | assumption | (simp [go_sem]; done) | (simp [go_sem, *]; done)), c3 := by (first | assumption | (simp [go_sem]; done) | (simp [go_sem, *]; done)), r0 := by (first | assumption | (simp [go_sem]; done) | (simp [go_sem, *]; done)), r1 := by (first | assumption | (simp [go_sem]; done) | (simp [go_sem, *]; done)), r2 := by (first | assumption | (simp [go_sem]; done) | (simp [go_sem, *]; done)), r3 := by (first | assumption | (simp [go_sem]; done) | (simp [go_sem, *]; done)), f2 := by (first | assumption | (simp [go_sem]; done) | (simp [go_sem, *]; done)), g0 := by (first | assumption | (simp [go_sem]; done) | (simp [go_sem, *]; done)), g1 := by (first | assumption | (simp [go_sem]; done) | (simp [go_sem, *]; done)), g2 := by (first | assumption | (simp [go_sem]; done) | (simp [go_sem, *]; done)), g3 := by (first | assumption | (simp [go_sem]; done) | (simp [go_sem, *]; done)), sz := by go_size, grown := grown_alloc (grown_alloc (World.grownBy.refl _ _) _) _ }
 case round =>
  obtain ⟨j, v, rfl, hg, hij, hv0, hv1, hnv, hdl, hB⟩ := hrel
  have HG := Lib.hid hg
  have HNV := Lib.hid hnv
  have HDL := Lib.hid hdl
  have HB := Lib.hid hB
  clear hg hnv hdl hB
  have B := HB.out
  obtain ⟨c0, c1, c2, c3, r0, r1, r2, r3, hfr, g0, g1, g2, g3, sz, grown⟩ := B
  have HAD := Lib.hid (at_dig s j)
  have hjs : j ≤ s.size := by have := HG.out; omega
  obtain ⟨b, hb⟩ : ∃ b, atV s j = b := ⟨_, rfl⟩
  have HAB := Lib.hid hb
  cases hd2 : b == 2
  ·have HE : Hid (hd digB (s.data.toList.drop j) = false) := by show _ = _; rw [HAD.out, HAB.out]; exact hd2
   clear hb
   go_wp2_with (go_at_call 33; (with_reducible refine (rat_any _ _ _ hs).mono ?_); rw [HAB.out]; rintro e w' ⟨rfl, rfl⟩)
   refine bodyPost_ret (v := .tuple #[.agg #[.int .i64 4, .string ⟨#[]⟩, .int .i64 v, .int .i64 i], .int .i64 j, .int .i64 0]) (by simp [results, Try.results21, go_sem, *]) rfl ?_
   refine ⟨?_, .inr ⟨⟨4, [], v⟩, j - i, ⟨#[]⟩, ?_, rfl, ?_⟩⟩
   ·repeat' (first | (with_reducible assumption) | (with_reducible refine grown_drewN ?_ _) | (with_reducible refine grown_setOwn ?_ ?_ _) | omega)
   ·rw [HT.out, HNV.out, num_end HE.out, HDL.out, dig_len_end HE.out, Nat.zero_add]
   ·rw [show i + (j - i) = j by omega]
  ·have HE : Hid (hd digB (s.data.toList.drop j) = true) := by show _ = _; rw [HAD.out, HAB.out]; exact hd2
   have hjl : j < s.size := at_lt (k := 2) (by rw [hb]; simpa using hd2) (by decide)
   have b1 : (j : Int) < (s.size : Int) := by omega
   have b0 : (0 : Int) ≤ (j : Int) := by omega
   obtain ⟨c, hc⟩ : ∃ c, s[j] = c := ⟨_, rfl⟩
   have hcons := byte_cons hjl
   rw [byteU_lt hjl, hc] at hcons
   have HC := Lib.hid hcons
   have hdc : digB c = true := by have := HE.out; rw [hcons] at this; exact this
   have HDC := Lib.hid hdc
   have hde := dig_eq c
   rw [hdc] at hde
   have hde' := hde.symm
   simp only [Bool.and_eq_true, decide_eq_true_eq] at hde'
   obtain ⟨k1, k2⟩ := hde'
   clear hb hcons hde hdc
   by_cases hov : (1152921504606846976 - ((c.toNat : Int) - 48)) / 10 < v
   ·have d1 : decide ((1152921504606846976 - ((c.toNat : Int) - 48)) / 10 < v) = true := decide_eq_true hov
    have F : Hid (numV (s.data.toList.drop i) 0 = none) := by
     show _ = _
     rw [HNV.out, HC.out, numV_step HDC.out, if_pos (by unfold big; omega)]
    clear hov
    go_wp2_with (go_at_call 33; (with_reducible refine (rat_any _ _ _ hs).mono ?_); rw [HAB.out]; rintro e w' ⟨rfl, rfl⟩)
    refine bodyPost_ret (v := .tuple #[.agg #[.int .i64 4, .string ⟨#[]⟩, .int .i64 v, .int .i64 i], .int .i64 0, .int .i64 2]) (by simp [results, Try.results21, go_sem, *]) rfl ?_
    refine ⟨?_, .inl ⟨_, ?_, _, _, _, rfl⟩⟩
    ·repeat' (first | (with_reducible assumption) | (with_reducible refine grown_drewN ?_ _) | (with_reducible refine grown_setOwn ?_ ?_ _) | omega)
    ·rw [HT.out, F.out]
   ·have d1 : decide ((1152921504606846976 - ((c.toNat : Int) - 48)) / 10 < v) = false := decide_eq_false hov
    have m1 : 10 * v + ((c.toNat : Int) - 48) ≤ 1152921504606846976 := by omega
    have F : Hid (numV (s.data.toList.drop i) 0 = numV (s.data.toList.drop (j + 1)) (10 * v + ((c.toNat : Int) - 48))) := by
     show _ = _
     rw [HNV.out, HC.out, numV_step HDC.out, if_neg (by unfold big; omega), show v * 10 = 10 * v by omega]
    clear hov
    go_wp2_with (go_at_call 33; (with_reducible refine (rat_any _ _ _ hs).mono ?_); rw [HAB.out]; rintro e w' ⟨rfl, rfl⟩)
    go_roundg (gk - 1)
    case measure => have h2 := HG.out; omega
    case rel =>
     have h2 := HG.out
     refine ⟨j + 1, _, rfl, by omega, by omega, by omega, m1, F.out, ?_, HB.out.put _⟩
     rw [HDL.out, HC.out, dig_len_step HDC.out]; omega
end Go.Proofs.Ytnojndgmgkgnpaa.Lx
/- Chapter 06: the reference's token: none; any. -/
namespace Go.Proofs.Ytnojndgmgkgnpaa.Lx
open Go.ChangeShapes Go.WideShapes Go.ChangeAt Go.RowKit
set_option linter.unusedVariables false
set_option linter.unusedSimpArgs false
set_option maxRecDepth 100000 in
set_option maxHeartbeats 4000000 in
theorem rtok_none (s : ByteArray) (i : Nat) (w : World) (hs : s.size ≤ 100000) (hi : i < s.size) (h1 : letB (byteU s i) = false) (h2 : digB (byteU s i) = false) (h3 : signB (byteU s i) = false) (h4 : markB (byteU s i) = false) (h39 : (byteU s i == 39) = false) (h35 : (byteU s i == 35) = false) (h58 : (byteU s i == 58) = false) :
  Calls Try.prog 21 #[.string s, .int .i64 i] w (RPost (tokV (s.data.toList.drop i)) w i i) := by
 obtain ⟨x, hx⟩ : ∃ x, s[i] = x := ⟨_, rfl⟩
 have hxb : byteU s i = x := by rw [byteU_lt hi, hx]
 obtain ⟨a, ha⟩ : ∃ a, atV s i = a := ⟨_, rfl⟩
 have HA := Lib.hid ha
 have hk : atV s i = kindV x := by unfold atV; rw [dif_pos hi, hx]
 have a1 : (a == 1) = false := by rw [← ha, hk, kind_letter, ← hxb]; exact h1
 have a2 : (a == 2) = false := by rw [← ha, hk, kind_digit, ← hxb]; exact h2
 have a3 : (a == 3) = false := by rw [← ha, hk, kind_sign, ← hxb]; exact h3
 have a4 : (a == 4) = false := by rw [← ha, hk, kind_markb, ← hxb]; exact h4
 have b0 : (0 : Int) ≤ (i : Int) := by omega
 have b01 : (i : Int) < (s.size : Int) := by omega
 have b03 : (0 : Int) ≤ (i : Int) + 1 := by omega
 rw [hxb] at h1 h2 h3 h4 h39 h35 h58
 have e39 := u8_eq x 39 (by omega)
 rw [show (x == UInt8.ofNat 39) = false from h39] at e39
 have n39 : ((x.toNat : Int) == 39) = false := e39
 have e35 := u8_eq x 35 (by omega)
 rw [show (x == UInt8.ofNat 35) = false from h35] at e35
 have n35 : ((x.toNat : Int) == 35) = false := e35
 have e58 := u8_eq x 58 (by omega)
 rw [show (x == UInt8.ofNat 58) = false from h58] at e58
 have n58 : ((x.toNat : Int) == 58) = false := e58
 have F : Hid (tokV (s.data.toList.drop i) = .err 10) := by
  show _ = _
  rw [byte_cons hi, hxb]
  simp only [tokV, h1, h2, h3, h4, h39, h35, h58, Bool.false_and, Bool.false_eq_true, if_false]
 clear ha hk hxb h1 h2 h3 h4 h39 h35 h58 e39 e35 e58
 go_enter Try.func21, Try.ntmps21
 go_wp2_with (first | (go_at_call 33; (with_reducible refine (rat_any _ _ _ hs).mono ?_); rw [HA.out]; rintro e w' ⟨rfl, rfl⟩))
 refine bodyPost_ret (v := .tuple #[.agg #[.int .i64 0, .string ⟨#[]⟩, .int .i64 0, .int .i64 i], .int .i64 0, .int .i64 10]) (by simp [results, Try.results21, go_sem, *]) rfl ?_
 refine ⟨?_, .inl ⟨_, F.out, _, _, _, rfl⟩⟩
 (repeat' (first | (with_reducible exact World.grownBy.refl _ _) | (with_reducible assumption) | (with_reducible refine grown_alloc ?_ _) | (with_reducible refine grown_drewN ?_ _) | (with_reducible refine grown_setOwn ?_ ?_ _) | omega))
set_option maxRecDepth 100000 in
set_option maxHeartbeats 4000000 in
theorem rtok_none58 (s : ByteArray) (i : Nat) (w : World) (hs : s.size ≤ 100000) (hi : i < s.size) (h1 : letB (byteU s i) = false) (h2 : digB (byteU s i) = false) (h3 : signB (byteU s i) = false) (h4 : markB (byteU s i) = false) (h39 : (byteU s i == 39) = false) (h35 : (byteU s i == 35) = false) (h58 : (byteU s i == 58) = true) (hi1 : i + 1 < s.size) (h61 : (byteU s (i + 1) == 61) = false) (hlt : hd letB (s.data.toList.drop (i + 1)) = false) :
  Calls Try.prog 21 #[.string s, .int .i64 i] w (RPost (tokV (s.data.toList.drop i)) w i i) := by
 obtain ⟨x, hx⟩ : ∃ x, s[i] = x := ⟨_, rfl⟩
 have hxb : byteU s i = x := by rw [byteU_lt hi, hx]
 obtain ⟨a, ha⟩ : ∃ a, atV s i = a := ⟨_, rfl⟩
 have HA := Lib.hid ha
 have hk : atV s i = kindV x := by unfold atV; rw [dif_pos hi, hx]
 have a1 : (a == 1) = false := by rw [← ha, hk, kind_letter, ← hxb]; exact h1
 have a2 : (a == 2) = false := by rw [← ha, hk, kind_digit, ← hxb]; exact h2
 have a3 : (a == 3) = false := by rw [← ha, hk, kind_sign, ← hxb]; exact h3
 have a4 : (a == 4) = false := by rw [← ha, hk, kind_markb, ← hxb]; exact h4
 have b0 : (0 : Int) ≤ (i : Int) := by omega
 have b01 : (i : Int) < (s.size : Int) := by omega
 have b03 : (0 : Int) ≤ (i : Int) + 1 := by omega
 rw [hxb] at h1 h2 h3 h4 h39 h35 h58
 have e39 := u8_eq x 39 (by omega)
 rw [show (x == UInt8.ofNat 39) = false from h39] at e39
 have n39 : ((x.toNat : Int) == 39) = false := e39
 have e35 := u8_eq x 35 (by omega)
 rw [show (x == UInt8.ofNat 35) = false from h35] at e35
 have n35 : ((x.toNat : Int) == 35) = false := e35
 have e58 := u8_eq x 58 (by omega)
 rw [show (x == UInt8.ofNat 58) = true from h58] at e58
 have n58 : ((x.toNat : Int) == 58) = true := e58
 have q61 : hd (· == 61) (s.data.toList.drop (i + 1)) = false := by rw [hd_byte (p := (· == 61)) rfl]; exact h61
 have F : Hid (tokV (s.data.toList.drop i) = .err 10) := by
  show _ = _
  rw [byte_cons hi, hxb]
  simp only [tokV, h1, h2, h3, h4, h39, h35, h58, q61, hlt, Bool.and_false, Bool.false_eq_true, if_false]
 have d1 : decide (i + 1 < s.size) = true := decide_eq_true hi1
 have d1' : decide ((i : Int) + 1 < (s.size : Int)) = true := decide_eq_true (by omega)
 have b02 : (i : Int) + 1 < (s.size : Int) := by omega
 obtain ⟨y, hy⟩ : ∃ y, s[i + 1] = y := ⟨_, rfl⟩
 have hyb : byteU s (i + 1) = y := by rw [byteU_lt hi1, hy]
 have e61 := u8_eq y 61 (by omega)
 rw [show (y == UInt8.ofNat 61) = false from by rw [← hyb]; exact h61] at e61
 have n61 : ((y.toNat : Int) == 61) = false := e61
 clear h61 e61 hyb
 obtain ⟨a', ha'⟩ : ∃ a', atV s (i + 1) = a' := ⟨_, rfl⟩
 have HA' := Lib.hid ha'
 have a1' : (a' == 1) = false := by rw [← ha', ← at_let]; exact hlt
 clear ha ha' hk hxb h1 h2 h3 h4 h39 h35 h58 e39 e35 e58 q61 hlt 
 go_enter Try.func21, Try.ntmps21
 go_wp2_with (first | (go_at_call 33; (with_reducible refine (rat_any _ _ _ hs).mono ?_); rw [HA.out]; rintro e w' ⟨rfl, rfl⟩) | (go_at_call 33; (with_reducible refine (rat1 s i _ hs).mono ?_); rw [HA'.out]; rintro e w' ⟨rfl, rfl⟩))
 refine bodyPost_ret (v := .tuple #[.agg #[.int .i64 0, .string ⟨#[]⟩, .int .i64 0, .int .i64 i], .int .i64 0, .int .i64 10]) (by simp [results, Try.results21, go_sem, *]) rfl ?_
 refine ⟨?_, .inl ⟨_, F.out, _, _, _, rfl⟩⟩
 (repeat' (first | (with_reducible exact World.grownBy.refl _ _) | (with_reducible assumption) | (with_reducible refine grown_alloc ?_ _) | (with_reducible refine grown_drewN ?_ _) | (with_reducible refine grown_setOwn ?_ ?_ _) | omega))
set_option maxRecDepth 100000 in
set_option maxHeartbeats 4000000 in
theorem rtok_none58e (s : ByteArray) (i : Nat) (w : World) (hs : s.size ≤ 100000) (hi : i < s.size) (h1 : letB (byteU s i) = false) (h2 : digB (byteU s i) = false) (h3 : signB (byteU s i) = false) (h4 : markB (byteU s i) = false) (h39 : (byteU s i == 39) = false) (h35 : (byteU s i == 35) = false) (h58 : (byteU s i == 58) = true) (hi1 : ¬ i + 1 < s.size) :
  Calls Try.prog 21 #[.string s, .int .i64 i] w (RPost (tokV (s.data.toList.drop i)) w i i) := by
 obtain ⟨x, hx⟩ : ∃ x, s[i] = x := ⟨_, rfl⟩
 have hxb : byteU s i = x := by rw [byteU_lt hi, hx]
 obtain ⟨a, ha⟩ : ∃ a, atV s i = a := ⟨_, rfl⟩
 have HA := Lib.hid ha
 have hk : atV s i = kindV x := by unfold atV; rw [dif_pos hi, hx]
 have a1 : (a == 1) = false := by rw [← ha, hk, kind_letter, ← hxb]; exact h1
 have a2 : (a == 2) = false := by rw [← ha, hk, kind_digit, ← hxb]; exact h2
 have a3 : (a == 3) = false := by rw [← ha, hk, kind_sign, ← hxb]; exact h3
 have a4 : (a == 4) = false := by rw [← ha, hk, kind_markb, ← hxb]; exact h4
 have b0 : (0 : Int) ≤ (i : Int) := by omega
 have b01 : (i : Int) < (s.size : Int) := by omega
 have b03 : (0 : Int) ≤ (i : Int) + 1 := by omega
 rw [hxb] at h1 h2 h3 h4 h39 h35 h58
 have e39 := u8_eq x 39 (by omega)
 rw [show (x == UInt8.ofNat 39) = false from h39] at e39
 have n39 : ((x.toNat : Int) == 39) = false := e39
 have e35 := u8_eq x 35 (by omega)
 rw [show (x == UInt8.ofNat 35) = false from h35] at e35
 have n35 : ((x.toNat : Int) == 35) = false := e35
 have e58 := u8_eq x 58 (by omega)
 rw [show (x == UInt8.ofNat 58) = true from h58] at e58
 have n58 : ((x.toNat : Int) == 58) = true := e58
 have hd0 : s.data.toList.drop (i + 1) = [] := List.drop_eq_nil_of_le (by have : s.data.toList.length = s.size := rfl; omega)
 have q61 : hd (· == 61) (s.data.toList.drop (i + 1)) = false := by rw [hd0]; rfl
 have hlt : hd letB (s.data.toList.drop (i + 1)) = false := by rw [hd0]; rfl
 have F : Hid (tokV (s.data.toList.drop i) = .err 10) := by
  show _ = _
  rw [byte_cons hi, hxb]
  simp only [tokV, h1, h2, h3, h4, h39, h35, h58, q61, hlt, Bool.and_false, Bool.false_eq_true, if_false]
 have d1 : decide (i + 1 < s.size) = false := decide_eq_false hi1
 have d1' : decide ((i : Int) + 1 < (s.size : Int)) = false := decide_eq_false (by omega)
 obtain ⟨a', ha'⟩ : ∃ a', atV s (i + 1) = a' := ⟨_, rfl⟩
 have HA' := Lib.hid ha'
 have a1' : (a' == 1) = false := by rw [← ha', ← at_let]; exact hlt
 clear ha ha' hk hxb h1 h2 h3 h4 h39 h35 h58 e39 e35 e58 q61 hlt hd0 hi1
 go_enter Try.func21, Try.ntmps21
 go_wp2_with (first | (go_at_call 33; (with_reducible refine (rat_any _ _ _ hs).mono ?_); rw [HA.out]; rintro e w' ⟨rfl, rfl⟩) | (go_at_call 33; (with_reducible refine (rat1 s i _ hs).mono ?_); rw [HA'.out]; rintro e w' ⟨rfl, rfl⟩))
 refine bodyPost_ret (v := .tuple #[.agg #[.int .i64 0, .string ⟨#[]⟩, .int .i64 0, .int .i64 i], .int .i64 0, .int .i64 10]) (by simp [results, Try.results21, go_sem, *]) rfl ?_
 refine ⟨?_, .inl ⟨_, F.out, _, _, _, rfl⟩⟩
 (repeat' (first | (with_reducible exact World.grownBy.refl _ _) | (with_reducible assumption) | (with_reducible refine grown_alloc ?_ _) | (with_reducible refine grown_drewN ?_ _) | (with_reducible refine grown_setOwn ?_ ?_ _) | omega))
theorem rtoken_any (s : ByteArray) (i : Nat) (w : World) (hs : s.size ≤ 100000) (hi : i < s.size) : Calls Try.prog 21 #[.string s, .int .i64 i] w (RPost (tokV (s.data.toList.drop i)) w i i) := by
 have hb := fun (p : UInt8 → Bool) => show hd p (s.data.toList.drop i) = p (byteU s i) by rw [byte_cons hi]; rfl
 cases h1 : letB (byteU s i)
 ·cases h2 : digB (byteU s i)
  ·cases h3 : signB (byteU s i)
   ·cases h4 : markB (byteU s i)
    ·cases h39 : byteU s i == 39
     ·cases h35 : byteU s i == 35
      ·cases h58 : byteU s i == 58
       ·exact rtok_none s i w hs hi h1 h2 h3 h4 h39 h35 h58
       ·have g58 : byteU s i = 58 := by simpa using h58
        by_cases hi1 : i + 1 < s.size
        ·cases h61 : byteU s (i + 1) == 61
         ·cases hlt : hd letB (s.data.toList.drop (i + 1))
          ·exact rtok_none58 s i w hs hi h1 h2 h3 h4 h39 h35 h58 hi1 h61 hlt
          ·by_cases h24 : nmLen (s.data.toList.drop (i + 1)) > 24
           ·exact rtok_par_long s i w hs hi g58 h61 hlt _ rfl h24
           ·exact rtok_par s i w hs hi g58 h61 hlt _ rfl h24
         ·exact rtok_assign s i w hs hi g58 (by simpa using h61)
        ·exact rtok_none58e s i w hs hi h1 h2 h3 h4 h39 h35 h58 hi1
      ·exact rtok_hash s i w hs hi (by simpa using h35)
     ·exact rtok_text s i w hs hi (by simpa using h39)
    ·exact rtok_mark s i w hs hi h4
   ·cases h5 : hd signB (s.data.toList.drop (i + 1))
    ·exact rtok_sign1 s i w hs hi (by rw [hb]; exact h3) h5
    ·exact rtok_sign2 s i w hs hi (by rw [hb]; exact h3) h5
  ·exact rtok_num s i w hs hi (by rw [hb]; exact h2)
 ·by_cases h24 : nmLen (s.data.toList.drop i) > 24
  ·exact rtok_long s i w hs hi (by rw [hb]; exact h1) _ rfl h24
  ·cases hc : colonB (s.data.toList.drop (i + nmLen (s.data.toList.drop i)))
   ·exact rtok_name s i w hs hi (by rw [hb]; exact h1) _ rfl h24 hc
   ·exact rtok_kw s i w hs hi (by rw [hb]; exact h1) _ rfl h24 hc
end Go.Proofs.Ytnojndgmgkgnpaa.Lx
/- Chapter 06: a token: numbers, texts, symbols. -/
namespace Go.Proofs.Ytnojndgmgkgnpaa.Lx
open Go.ChangeShapes Go.WideShapes Go.ChangeAt Go.RowKit
set_option linter.unusedVariables false
set_option linter.unusedSimpArgs false

theorem sym_errs {l : Bs} {x : Int} (h : symV l = .err x) : x = 10 ∨ x = 12 := by
 unfold symV at h
 split at h
 ·cases h
 ·split at h
  ·split at h
   ·cases h; exact .inr rfl
   ·split at h
    ·cases hk : kws l.length (l.drop (nmLen l + 1)) with
     | none => rw [hk] at h; cases h; exact .inr rfl
     | some k => rw [hk] at h; cases h
    ·cases h
  ·cases h; exact .inl rfl
end Go.Proofs.Ytnojndgmgkgnpaa.Lx
/- Chapter 06: a token: symbols, signs, marks. -/
namespace Go.Proofs.Ytnojndgmgkgnpaa.Lx
open Go.ChangeShapes Go.WideShapes Go.ChangeAt Go.RowKit
set_option linter.unusedVariables false
set_option linter.unusedSimpArgs false

end Go.Proofs.Ytnojndgmgkgnpaa.Lx
/- Chapter 06: a token: colons, signs, marks. -/
namespace Go.Proofs.Ytnojndgmgkgnpaa.Lx
open Go.ChangeShapes Go.WideShapes Go.ChangeAt Go.RowKit
set_option linter.unusedVariables false
set_option linter.unusedSimpArgs false

end Go.Proofs.Ytnojndgmgkgnpaa.Lx
/- Chapter 06: a token. -/
namespace Go.Proofs.Ytnojndgmgkgnpaa.Lx
open Go.ChangeShapes Go.WideShapes Go.ChangeAt Go.RowKit
set_option linter.unusedVariables false
set_option linter.unusedSimpArgs false
end Go.Proofs.Ytnojndgmgkgnpaa.Lx
/- Chapter 06: a source's tokens: words for the walk. -/
namespace Go.Proofs.Ytnojndgmgkgnpaa.Lx
open Go.ChangeShapes Go.WideShapes Go.ChangeAt Go.RowKit
set_option linter.unusedVariables false
set_option linter.unusedSimpArgs false
def strB (t : Bs) : ByteArray := ⟨t.toArray⟩
theorem strB_of {T : ByteArray} {t : Bs} (h : T.data.toList = t) : T = strB t := by
 apply ByteArray.ext; apply Array.toList_inj.1; rw [h]; rfl
def tokCells (t : ATok) : List Value := [.int .i64 t.kind, .string (strB t.text), .int .i64 t.num, .int .i64 (t.at_ : Int)]
def rowCells (A : List ATok) : List Value := A.flatMap tokCells
theorem rowCells_app (A : List ATok) (t : ATok) : rowCells (A ++ [t]) = rowCells A ++ tokCells t := by simp [rowCells]
theorem Toks.app_nil (t : Toks) : Toks.app [] t = t := by cases t <;> rfl
theorem Toks.app_cons (A : List ATok) (t : ATok) (B : Toks) : Toks.app A (Toks.cons t B) = Toks.app (A ++ [t]) B := by
 cases B with
 | err a e => rfl
 | ok l => simp [Toks.app, Toks.cons]
end Go.Proofs.Ytnojndgmgkgnpaa.Lx
/- Chapter 06: a source's tokens. -/
namespace Go.Proofs.Ytnojndgmgkgnpaa.Lx
open Go.ChangeShapes Go.WideShapes Go.ChangeAt Go.RowKit
set_option linter.unusedVariables false
set_option linter.unusedSimpArgs false
theorem info33 : (Try.prog.info? 55).map (fun i => (i.zero, i.size, i.bytes)) = some (some (.agg #[.int .i64 0, .string ⟨#[]⟩, .int .i64 0, .int .i64 0]), 4, 40) := by kernel_rfl
theorem tok_errs {l : Bs} {x : Int} (h : tokV l = .err x) : x ≠ 0 := by
 match l with
 | [] => cases h; decide
 | c :: r =>
  simp only [tokV] at h
  by_cases q1 : letB c = true
  ·rw [if_pos q1] at h
   unfold wrdV at h
   split at h
   ·cases h; decide
   ·split at h <;> cases h
  ·rw [if_neg q1] at h
   by_cases q2 : digB c = true
   ·rw [if_pos q2] at h
    cases hn : numV (c :: r) 0 with
    | none => rw [hn] at h; cases h; decide
    | some v => rw [hn] at h; cases h
   ·rw [if_neg q2] at h
    by_cases q3 : (c == 39) = true
    ·rw [if_pos q3] at h
     cases hn : txt r with
     | none => rw [hn] at h; cases h; decide
     | some v => rw [hn] at h; cases h
    ·rw [if_neg q3] at h
     by_cases q4 : (c == 35) = true
     ·rw [if_pos q4] at h
      split at h
      ·cases h
      ·cases hn : symV r with
       | err e => rw [hn] at h; cases h; rcases sym_errs hn with rfl | rfl <;> decide
       | ok t n => rw [hn] at h; cases h
     ·rw [if_neg q4] at h
      split at h
      ·cases h
      ·split at h
       ·split at h
        ·cases h; decide
        ·cases h
       ·split at h
        ·cases h
        ·split at h
         ·cases h
         ·cases h; decide
theorem cells_newN (w : World) (t : TypeId) (l : List Value) (n : Nat) (hn : n = w.heap.size) : ∀ (j : Nat) (u : Value), l[j]? = some u → (w.alloc (.cells l.toArray t)).cell? ((⟨n, 0, none⟩ : Addr).add j) = some u := by
 subst hn; exact cells_new w t l
/-- what Tokens tells -/
def TokensPost (w : World) (s : ByteArray) (e : Ending) (w' : World) : Prop :=
 Below w.heap.size w w' ∧ ((2000 < s.size ∧ e = .returned (.tuple #[.slice none 0 0, .int .i64 0, .int .i64 12])) ∨
  (s.size ≤ 2000 ∧ ((∃ (a : Nat) (x : Int), toksV s.data.toList = .err a x ∧ x ≠ 0 ∧ e = .returned (.tuple #[.slice none 0 0, .int .i64 a, .int .i64 x])) ∨
   ∃ (A : List ATok) (v : Value), toksV s.data.toList = .ok A ∧ e = .returned (.tuple #[v, .int .i64 0, .int .i64 0]) ∧ w'.ownsRow w.heap.size 55 4 v A.length (rowCells A))))
def TokRel (w : World) (s : ByteArray) (g : Nat) (o : Value) (wr : World) : Prop :=
 ∃ j acc, g + j = s.size ∧ acc.length ≤ j ∧ wr.ownsRow (w.heap.size + 1) 33 4 o acc.length (rowCells acc) ∧ toksV s.data.toList = Toks.app acc (toksF (s.size + 1) j (s.data.toList.drop j)) ∧ Below w.heap.size w wr ∧ At wr w.heap.size s j
end Go.Proofs.Ytnojndgmgkgnpaa.Lx
/- Chapter 06: the reference's tokens of a source. -/
namespace Go.Proofs.Ytnojndgmgkgnpaa.Lx
open Go.ChangeShapes Go.WideShapes Go.ChangeAt Go.RowKit
set_option linter.unusedVariables false
set_option linter.unusedSimpArgs false
theorem below_of_grown {w w' : World} (h : w.grownBy w' none) : Below w.heap.size w w' := ⟨h.os, h.tape, h.output, h.size, fun k hk => h.block k hk (by simp)⟩
theorem rtok_errC {s : ByteArray} {i : Nat} {w : World} {x : Int} (hs : s.size ≤ 100000) (hi : i < s.size) (hv : tokV (s.data.toList.drop i) = .err x) :
  Calls Try.prog 21 #[.string s, .int .i64 i] w fun e w' => ∃ (k1 : Int) (k2 : ByteArray) (k3 : Int), e = .returned (.tuple #[.agg #[.int .i64 k1, .string k2, .int .i64 k3, .int .i64 i], .int .i64 0, .int .i64 x]) ∧ Below w.heap.size w w' :=
 (rtoken_any s i w hs hi).mono fun e w' hp => by
  rcases hp with ⟨hg, ⟨y, h1, k1, k2, k3, rfl⟩ | ⟨t, n, T, h1, _⟩⟩
  ·rw [hv] at h1; cases h1; exact ⟨k1, k2, k3, rfl, below_of_grown hg⟩
  ·rw [hv] at h1; cases h1
theorem rtok_okC {s : ByteArray} {i : Nat} {w : World} {t : Tok} {n : Nat} (hs : s.size ≤ 100000) (hi : i < s.size) (hv : tokV (s.data.toList.drop i) = .ok t n) :
  Calls Try.prog 21 #[.string s, .int .i64 i] w fun e w' => e = .returned (.tuple #[.agg #[.int .i64 t.kind, .string (strB t.text), .int .i64 t.num, .int .i64 i], .int .i64 ((i + n : Nat) : Int), .int .i64 0]) ∧ Below w.heap.size w w' :=
 (rtoken_any s i w hs hi).mono fun e w' hp => by
  rcases hp with ⟨hg, ⟨y, h1, _⟩ | ⟨t', n', T, h1, h2, h3⟩⟩
  ·rw [hv] at h1; cases h1
  ·rw [hv] at h1; cases h1
   rw [← strB_of h2]; exact ⟨h3, below_of_grown hg⟩
theorem toks_step (f j n : Nat) (op : Bool) (l : Bs) (hn : skipV (l.drop j) = (n, op)) : toksF (f + 1) j (l.drop j) = if op then .err (j + n) 11 else if n = (l.drop j).length then .ok [⟨0, [], 0, j + n⟩] else match tokV (l.drop (j + n)) with | .err e => .err (j + n) e | .ok t m => .cons ⟨t.kind, t.text, t.num, j + n⟩ (toksF f (j + n + m) (l.drop (j + n + m))) := by
 rw [toksF, hn]
 cases op
 ·simp only [Bool.false_eq_true, if_false]
  by_cases h : n = (l.drop j).length
  ·rw [if_pos h, if_pos h]
  ·rw [if_neg h, if_neg h]
   simp only [List.drop_drop]
   cases tokV (l.drop (j + n)) with
   | err e => rfl
   | ok t m => simp only [Nat.add_assoc]
 ·rfl
def RTokRel (w : World) (s : ByteArray) (g : Nat) (p o : Value) (wr : World) : Prop :=
 ∃ (j : Nat) (acc : List ATok), p = .int .i64 (j : Int) ∧ g + j = s.size ∧ acc.length ≤ j ∧ wr.ownsRow w.heap.size 55 4 o acc.length (rowCells acc) ∧ toksV s.data.toList = Toks.app acc (toksF (s.size + 1) j (s.data.toList.drop j)) ∧ Below w.heap.size w wr
set_option maxRecDepth 100000 in
set_option maxHeartbeats 8000000 in
theorem rtokens_any (s : ByteArray) (w : World) (hs : s.size ≤ 9223372036854775807) : Calls Try.prog 13 #[.string s] w (TokensPost w s) := by
 obtain ⟨i0, hi, hz0, hz1, hz2⟩ := info_parts info33
 by_cases hbig : 2000 < s.size
 ·have d1 : decide (2000 < s.size) = true := decide_eq_true hbig
  go_enter Try.func13, Try.ntmps13
  go_wp2
  go_ret3
  exact ⟨Below.refl _ _, .inl ⟨hbig, rfl⟩⟩
 ·have d1 : decide (2000 < s.size) = false := decide_eq_false hbig
  have d1' : decide ((2000 : Int) < (s.size : Int)) = false := decide_eq_false (by omega)
  have hs2 : s.size ≤ 2000 := by omega
  have hs3 : s.size ≤ 100000 := by omega
  clear hbig
  go_enter Try.func13, Try.ntmps13
  go_wp2
  go_loopg [6, 5] s.size (fun g p o wr => RTokRel w s g p o wr)
  case atStart =>
   refine ⟨0, [], rfl, by omega, by simp, World.ownsRow_nil _ _ _ _, ?_, ?_⟩
   ·rw [Toks.app_nil]; rfl
   ·(repeat' first | (with_reducible first | exact bl0 _ _ | assumption | apply bl1 | apply bl2 | apply bl3 | apply bl4) | go_size)
  case round =>
   obtain ⟨j, acc, rfl, hg, hal, hown, htk, hB⟩ := hrel
   have HG := Lib.hid hg
   have HTK := Lib.hid htk
   have hj : j ≤ s.size := by omega
   have hlw := hB.size
   clear hg htk
   have hskl := skip_le_aux _ (s.data.toList.drop j) (Nat.le_refl _)
   have hszl : s.data.toList.length = s.size := rfl
   simp only [List.length_drop] at hskl
   obtain ⟨⟨n, op⟩, hn⟩ : ∃ z, skipV (s.data.toList.drop j) = z := ⟨_, rfl⟩
   rw [hn, hszl] at hskl
   simp only at hskl
   have HN := Lib.hid hn
   have hstep : toksF (s.size + 1) j (s.data.toList.drop j) = if op then .err (j + n) 11 else if n = (s.data.toList.drop j).length then .ok [⟨0, [], 0, j + n⟩] else match tokV (s.data.toList.drop (j + n)) with | .err e => .err (j + n) e | .ok t m => .cons ⟨t.kind, t.text, t.num, j + n⟩ (toksF s.size (j + n + m) (s.data.toList.drop (j + n + m))) := by
    exact toks_step s.size j n op _ hn
   have HST := Lib.hid hstep
   have hbn : j + n ≤ s.size := by omega
   obtain ⟨q, hq⟩ : ∃ q, q = j + n := ⟨_, rfl⟩
   have HQ := Lib.hid hq
   rw [← hq] at hbn
   have hlq : (s.data.toList.drop j).length = s.size - j := by simp
   clear hn hstep hszl
   cases op
   ·clear hskl
    by_cases hend : q = s.size
    ·have e1 : ((q : Int) == (s.size : Int)) = true := by rw [hend]; simp
     have e1' : (q == s.size) = true := by rw [hend]; simp
     have htoks : Hid (toksV s.data.toList = .ok (acc ++ [⟨0, [], 0, q⟩])) := by
      show _ = _
      rw [HTK.out, HST.out, if_neg (by simp), if_pos (by rw [hlq]; omega), ← hq, Toks.app]
     have HE := Lib.hid hend
     clear hend hq hlq
     go_wp2_with (first | (go_at_call 20; (with_reducible refine (rskip_any s j _ hs3 hj).mono ?_); rw [HN.out]; dsimp only; rw [← HQ.out]; rintro e w' ⟨rfl, hw'⟩; replace hw' := hw'.symm; subst hw') | (at_builtin; refine wpList_append_own _ rfl _ _ 45 rfl w.heap.size 55 i0 (.agg #[.int .i64 0, .string ⟨#[]⟩, .int .i64 0, .int .i64 0]) 4 40 Try.underlying45 hi hz0 hz1 hz2 rfl (by decide) _ _ _ rfl (hown.alloc _) ⟨wr.heap.size, 0, none⟩ 1 1 [.int .i64 0, .string ⟨#[]⟩, .int .i64 0, .int .i64 q] rfl rfl (cells_new _ _ _) (by simp [Value.oneCell']) (by unfold maxLen; omega) (by omega) (by simp only [World.size_alloc]; omega) ?_; intro v2 w2 hown2 hg2 _))
     go_ret3
     have hb2 := below_of_append (hown.alloc (.cells #[.int .i64 0, .string ⟨#[]⟩, .int .i64 0, .int .i64 q] 55)) hg2 (by simp only [World.size_alloc]; omega)
     refine ⟨?_, .inr ⟨hs2, .inr ⟨_, v2, htoks.out, rfl, ?_⟩⟩⟩
     ·have h3 : Below w.heap.size w (wr.alloc (.cells #[.int .i64 0, .string ⟨#[]⟩, .int .i64 0, .int .i64 q] 55)) := bel
      exact h3.trans (hb2.mono (by omega))
     ·rw [rowCells_app]
      simp only [List.length_append, List.length_cons, List.length_nil, tokCells]
      exact hown2
    ·have e1 : ((q : Int) == (s.size : Int)) = false := by simp; omega
     have e1' : (q == s.size) = false := by simp; omega
     have hql : q < s.size := by omega
     have htoks : Hid (toksF (s.size + 1) j (s.data.toList.drop j) = match tokV (s.data.toList.drop q) with | .err e => .err q e | .ok t m => .cons ⟨t.kind, t.text, t.num, q⟩ (toksF s.size (q + m) (s.data.toList.drop (q + m)))) := by
      show _ = _
      rw [HST.out, if_neg (by simp), if_neg (by rw [hlq]; omega), ← hq]
     clear hend hlq
     have hqj : j ≤ q := by omega
     clear hq
     cases hv : tokV (s.data.toList.drop q) with
     | err x =>
      have hx0 := tok_errs hv
      have n1 : (x == 0) = false := by simpa using hx0
      have n2 : (x != 0) = true := by simpa using hx0
      have HV := Lib.hid hv
      clear hv
      go_wp2_with (first | (go_at_call 20; (with_reducible refine (rskip_any s j _ hs3 hj).mono ?_); rw [HN.out]; dsimp only; rw [← HQ.out]; rintro e w' ⟨rfl, hw'⟩; replace hw' := hw'.symm; subst hw') | (go_at_call 21; (with_reducible refine (rtok_errC hs3 hql HV.out).mono ?_); rintro e w2 ⟨k1, k2, k3, rfl, hb2⟩))
      go_ret3
      have hS := hb2.size
      have hB2 := hB.trans (hb2.mono hlw)
      refine ⟨?_, .inr ⟨hs2, .inl ⟨q, x, ?_, hx0, rfl⟩⟩⟩
      ·(repeat' first | (with_reducible first | exact bl0 _ _ | assumption | apply bl1 | apply bl2 | apply bl3 | apply bl4) | go_size)
      ·rw [HTK.out, htoks.out, HV.out]; rfl
     | ok u n' =>
      have hpos := tok_pos hv
      simp only [List.length_drop] at hpos
      have hszl : s.data.toList.length = s.size := rfl
      have hn1 : q + n' ≤ s.size := by omega
      have hn2 : 1 ≤ n' := hpos.1
      have HV := Lib.hid hv
      clear hv hpos hszl
      go_wp2_with (first | (go_at_call 20; (with_reducible refine (rskip_any s j _ hs3 hj).mono ?_); rw [HN.out]; dsimp only; rw [← HQ.out]; rintro e w' ⟨rfl, hw'⟩; replace hw' := hw'.symm; subst hw') | (go_at_call 21; (with_reducible refine (rtok_okC hs3 hql HV.out).mono ?_); rintro e w4 ⟨rfl, hb2⟩; have hown1 := ownsRow_below hown hb2; have hB2 := hB.trans (hb2.mono hlw); have hlw2 := hB2.size; clear hb2) | (at_builtin; refine wpList_append_own _ rfl _ _ 45 rfl w.heap.size 55 i0 (.agg #[.int .i64 0, .string ⟨#[]⟩, .int .i64 0, .int .i64 0]) 4 40 Try.underlying45 hi hz0 hz1 hz2 rfl (by decide) _ _ _ rfl ((hown1.alloc _).alloc _) ⟨w4.heap.size + 1, 0, none⟩ 1 1 [.int .i64 u.kind, .string (strB u.text), .int .i64 u.num, .int .i64 q] rfl rfl (cells_newN _ _ _ _ (by simp only [World.size_alloc])) (by simp [Value.oneCell']) (by unfold maxLen; omega) (by omega) (by simp only [World.size_alloc]; omega) ?_; intro v2 w2 hown2 hg2 _))
      go_roundg (gk - (n + n'))
      case measure => have h1 := HG.out; have h2 := HQ.out; omega
      case rel =>
       have h1 := HG.out
       have h2 := HQ.out
       have hb3 := below_of_append ((hown1.alloc (.cells #[.int .i64 u.kind, .string (strB u.text), .int .i64 u.num, .int .i64 q] 55)).alloc (.cells #[.int .i64 u.kind, .string (strB u.text), .int .i64 u.num, .int .i64 q] 55)) hg2 (by simp only [World.size_alloc]; omega)
       refine ⟨q + n', acc ++ [⟨u.kind, u.text, u.num, q⟩], rfl, by omega, by simp; omega, ?_, ?_, ?_⟩
       ·rw [rowCells_app]
        simp only [List.length_append, List.length_cons, List.length_nil, tokCells]
        exact hown2
       ·rw [HTK.out, htoks.out, HV.out]
        simp only
        rw [Toks.app_cons, toks_fuel s.size (s.size + 1) _ _ (by simp; omega) (by simp; omega)]
       ·have h3 : Below w.heap.size w ((w4.alloc (.cells #[.int .i64 u.kind, .string (strB u.text), .int .i64 u.num, .int .i64 q] 55)).alloc (.cells #[.int .i64 u.kind, .string (strB u.text), .int .i64 u.num, .int .i64 q] 55)) := bel
        exact h3.trans (hb3.mono (by omega))
   ·have htoks : Hid (toksV s.data.toList = .err q 11) := by
     show _ = _
     rw [HTK.out, HST.out, if_pos rfl, ← hq]; rfl
    clear hskl hq hlq
    go_wp2_with (go_at_call 20; (with_reducible refine (rskip_any s j _ hs3 hj).mono ?_); rw [HN.out]; dsimp only; rw [← HQ.out]; rintro e w' ⟨rfl, hw'⟩; replace hw' := hw'.symm; subst hw')
    go_ret3
    exact ⟨hB, .inr ⟨hs2, .inl ⟨q, 11, htoks.out, by decide, rfl⟩⟩⟩
end Go.Proofs.Ytnojndgmgkgnpaa.Lx

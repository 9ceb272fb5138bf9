/- Chapter 11: which depths a code has: plain mathematics. -/
namespace Go.Proofs.Ytnojndgmgkgnpaa
structure Ins where
 op : Int
 a : Int
 b : Int
deriving DecidableEq
def usesV (op : Int) : Int := if 14 ≤ op ∧ op ≤ 18 then 2 else if 6 ≤ op ∧ op ≤ 11 then 1 else 0
def operB (n : Int) (u : Bool) : Bool := n == 0 || (u && decide (0 < n) && decide (n ≤ 255))
def mayB (i : Ins) : Bool := decide (1 ≤ i.op) && decide (i.op ≤ 20) && operB i.a (decide (0 < usesV i.op)) && operB i.b (decide (1 < usesV i.op))
def leadsB (op : Int) : Bool := op == 16 || op == 17
def targetV (i : Ins) : Int := if leadsB i.op then i.a + i.b * 256 else -1
def growsV (i : Ins) : Int :=
 if (1 ≤ i.op ∧ i.op ≤ 9) ∨ i.op = 13 ∨ i.op = 18 then 1
 else if i.op = 12 ∨ i.op = 17 ∨ i.op = 19 ∨ i.op = 20 then -1
 else if i.op = 14 ∨ i.op = 15 then -i.b
 else 0
def needsV (i : Ins) : Int :=
 if i.op = 12 ∨ i.op = 13 ∨ i.op = 10 ∨ i.op = 11 ∨ i.op = 17 ∨ i.op = 19 ∨ i.op = 20 then 1
 else if i.op = 14 ∨ i.op = 15 then i.b + 1
 else 0
/-- the end of the inside of the block at a place; -1: there is none -/
def endV (n : Nat) (C : Nat → Ins) (p : Nat) : Int :=
 if (C p).op = 18 ∧ p + 1 < n ∧ (C (p + 1)).op = 16 ∧ (p : Int) + 2 < targetV (C (p + 1)) then targetV (C (p + 1)) else -1
/-- the last of the first k places whose block's inside has a place -/
def ownK (n : Nat) (C : Nat → Ins) (at_ : Nat) : Nat → Int
 | 0 => -1
 | k + 1 => if k + 2 ≤ at_ ∧ (at_ : Int) < endV n C k then (k : Int) else ownK n C at_ k
def ownV (n : Nat) (C : Nat → Ins) (at_ : Nat) : Int := ownK n C at_ n
/-! ### depths -/
section
variable (n : Nat) (root : Nat → Bool) (chk : Nat → Int → Bool) (succ : Nat → List Int) (okp : Nat → Int → Bool) (aft : Nat → Int → Int)
inductive Reach : Nat → Int → Prop
 | start (p : Nat) : p < n → root p = true → Reach p 0
 | step (p q : Nat) (d : Int) : Reach p d → chk p d = true → (q : Int) ∈ succ p → okp p q = true → Reach q (aft p d)
def Bad : Prop := (∃ p d, Reach n root chk succ okp aft p d ∧ (chk p d = false ∨ ∃ q, q ∈ succ p ∧ okp p q = false)) ∨
 ∃ p d e, Reach n root chk succ okp aft p d ∧ Reach n root chk succ okp aft p e ∧ d ≠ e
/-- what is told so far is reached, and at least 0 where it is told -/
def Sound (out : Nat → Int) : Prop := (∀ p, p < n → 0 ≤ out p → Reach n root chk succ okp aft p (out p)) ∧ (∀ p, p < n → out p = -1 ∨ 0 ≤ out p) ∧ ∀ p, p < n → root p = true → out p = 0
def ClosedAt (out : Nat → Int) (p : Nat) : Prop := chk p (out p) = true ∧ ∀ q, q ∈ succ p → okp p q = true ∧ out q.toNat = aft p (out p)
def Closed (out : Nat → Int) : Prop := ∀ p, p < n → 0 ≤ out p → ClosedAt chk succ okp aft out p
end
section
variable {n : Nat} {root : Nat → Bool} {chk : Nat → Int → Bool} {succ : Nat → List Int} {okp : Nat → Int → Bool} {aft : Nat → Int → Int}
end
end Go.Proofs.Ytnojndgmgkgnpaa

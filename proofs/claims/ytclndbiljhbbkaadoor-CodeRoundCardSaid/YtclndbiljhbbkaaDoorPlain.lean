/- Chapter 11: which depths a code has: plain mathematics. -/
namespace Go.Proofs.YtclndbiljhbbkaaDoor
structure Ins where
  op : Int
  a : Int
  b : Int
deriving DecidableEq
def usesV (op : Int) : Int := if 14 ≤ op ∧ op ≤ 18 then 2 else if 6 ≤ op ∧ op ≤ 11 then 1 else 0
def operB (n : Int) (u : Bool) : Bool := n == 0 || (u && decide (0 < n) && decide (n ≤ 255))
def mayB (i : Ins) : Bool := decide (1 ≤ i.op) && decide (i.op ≤ 20) && operB i.a (decide (0 < usesV i.op)) && operB i.b (decide (1 < usesV i.op))
def leadsB (op : Int) : Bool := op == 16 || op == 17
def targetV (i : Ins) : Int := if leadsB i.op then i.a + i.b * 256 else -1
def growsV (i : Ins) : Int :=
  if (1 ≤ i.op ∧ i.op ≤ 9) ∨ i.op = 13 ∨ i.op = 18 then 1
  else if i.op = 12 ∨ i.op = 17 ∨ i.op = 19 ∨ i.op = 20 then -1
  else if i.op = 14 ∨ i.op = 15 then -i.b
  else 0
def needsV (i : Ins) : Int :=
  if i.op = 12 ∨ i.op = 13 ∨ i.op = 10 ∨ i.op = 11 ∨ i.op = 17 ∨ i.op = 19 ∨ i.op = 20 then 1
  else if i.op = 14 ∨ i.op = 15 then i.b + 1
  else 0
theorem may_bounds {i : Ins} (h : mayB i = true) : 1 ≤ i.op ∧ i.op ≤ 20 ∧ 0 ≤ i.a ∧ i.a ≤ 255 ∧ 0 ≤ i.b ∧ i.b ≤ 255 := by
  unfold mayB operB at h
  simp only [Bool.and_eq_true, Bool.or_eq_true, decide_eq_true_eq, beq_iff_eq] at h
  omega
theorem grows_needs {i : Ins} (h : mayB i = true) : 0 ≤ growsV i + needsV i := by
  have := may_bounds h
  unfold growsV needsV
  split <;> split <;> (try split) <;> (try split) <;> (try split) <;> omega
/-- the end of the inside of the block at a place; -1: there is none -/
def endV (n : Nat) (C : Nat → Ins) (p : Nat) : Int :=
  if (C p).op = 18 ∧ p + 1 < n ∧ (C (p + 1)).op = 16 ∧ (p : Int) + 2 < targetV (C (p + 1)) then targetV (C (p + 1)) else -1
/-- the last of the first k places whose block's inside has a place -/
def ownK (n : Nat) (C : Nat → Ins) (at_ : Nat) : Nat → Int
  | 0 => -1
  | k + 1 => if k + 2 ≤ at_ ∧ (at_ : Int) < endV n C k then (k : Int) else ownK n C at_ k
def ownV (n : Nat) (C : Nat → Ins) (at_ : Nat) : Int := ownK n C at_ n
theorem ownK_far (n : Nat) (C : Nat → Ins) (at_ : Nat) : ∀ k m, at_ < k + 2 → k ≤ m → ownK n C at_ m = ownK n C at_ k := by
  intro k m hk hm
  induction m with
  | zero => have : k = 0 := by omega
            subst this; rfl
  | succ m ih =>
    rcases Nat.lt_or_ge m k with h | h
    · have : k = m + 1 := by omega
      subst this; rfl
    · rw [ownK, if_neg (by omega)]; exact ih h
theorem ownK_range (n : Nat) (C : Nat → Ins) (at_ : Nat) : ∀ k, ownK n C at_ k = -1 ∨ ∃ q : Nat, q < k ∧ q + 2 ≤ at_ ∧ ownK n C at_ k = (q : Int) ∧ (at_ : Int) < endV n C q
  | 0 => .inl rfl
  | k + 1 => by
    unfold ownK
    split
    · next h => exact .inr ⟨k, by omega, h.1, rfl, h.2⟩
    · rcases ownK_range n C at_ k with h | ⟨q, h1, h2, h3, h4⟩
      · exact .inl h
      · exact .inr ⟨q, by omega, h2, h3, h4⟩
/-- the owner of the inside's first place -/
theorem own_first {n : Nat} {C : Nat → Ins} {p : Nat} (hp : p + 2 < n) (h : (p : Int) + 2 < endV n C p) : ownV n C (p + 2) = (p : Int) := by
  unfold ownV
  rw [ownK_far n C (p + 2) (p + 1) n (by omega) (by omega), ownK, if_pos ⟨by omega, by omega⟩]
/-! ### depths -/
section
variable (n : Nat) (root : Nat → Bool) (chk : Nat → Int → Bool) (succ : Nat → List Int) (okp : Nat → Int → Bool) (aft : Nat → Int → Int)
inductive Reach : Nat → Int → Prop
  | start (p : Nat) : p < n → root p = true → Reach p 0
  | step (p q : Nat) (d : Int) : Reach p d → chk p d = true → (q : Int) ∈ succ p → okp p q = true → Reach q (aft p d)
def Bad : Prop := (∃ p d, Reach n root chk succ okp aft p d ∧ (chk p d = false ∨ ∃ q, q ∈ succ p ∧ okp p q = false)) ∨
  ∃ p d e, Reach n root chk succ okp aft p d ∧ Reach n root chk succ okp aft p e ∧ d ≠ e
/-- what is told so far is reached, and at least 0 where it is told -/
def Sound (out : Nat → Int) : Prop := (∀ p, p < n → 0 ≤ out p → Reach n root chk succ okp aft p (out p)) ∧ (∀ p, p < n → out p = -1 ∨ 0 ≤ out p) ∧ ∀ p, p < n → root p = true → out p = 0
def ClosedAt (out : Nat → Int) (p : Nat) : Prop := chk p (out p) = true ∧ ∀ q, q ∈ succ p → okp p q = true ∧ out q.toNat = aft p (out p)
def Closed (out : Nat → Int) : Prop := ∀ p, p < n → 0 ≤ out p → ClosedAt chk succ okp aft out p
end
section
variable {n : Nat} {root : Nat → Bool} {chk : Nat → Int → Bool} {succ : Nat → List Int} {okp : Nat → Int → Bool} {aft : Nat → Int → Int}
theorem closed_reach (hok : ∀ p q, okp p q = true → 0 ≤ q ∧ q < n) (hpos : ∀ p d, chk p d = true → 0 ≤ aft p d) {out : Nat → Int} (hs : Sound n root chk succ okp aft out) (hc : Closed n chk succ okp aft out) :
    ∀ {p d}, Reach n root chk succ okp aft p d → p < n ∧ out p = d ∧ 0 ≤ d := by
  intro p d h
  induction h with
  | start p hp hr => exact ⟨hp, hs.2.2 p hp hr, by omega⟩
  | step p q d h1 h2 h3 h4 ih =>
    obtain ⟨i1, i2, i3⟩ := ih
    have hcl := hc p i1 (by omega)
    have h5 := (hcl.2 q h3).2
    rw [i2] at h5
    exact ⟨by have := hok p q h4; omega, by simpa using h5, hpos p d h2⟩
theorem closed_good (hok : ∀ p q, okp p q = true → 0 ≤ q ∧ q < n) (hpos : ∀ p d, chk p d = true → 0 ≤ aft p d) {out : Nat → Int} (hs : Sound n root chk succ okp aft out) (hc : Closed n chk succ okp aft out) : ¬ Bad n root chk succ okp aft := by
  rintro (⟨p, d, hr, h⟩ | ⟨p, d, e, h1, h2, hne⟩)
  · obtain ⟨i1, i2, i3⟩ := closed_reach hok hpos hs hc hr
    have hcl := hc p i1 (by omega)
    rw [ClosedAt, i2] at hcl
    rcases h with h | ⟨q, hq, h⟩
    · rw [hcl.1] at h; cases h
    · rw [(hcl.2 q hq).1] at h; cases h
  · have a := (closed_reach hok hpos hs hc h1).2.1
    have b := (closed_reach hok hpos hs hc h2).2.1
    exact hne (by omega)
/-- two answers that are sound and closed are one -/
theorem closed_same (hok : ∀ p q, okp p q = true → 0 ≤ q ∧ q < n) (hpos : ∀ p d, chk p d = true → 0 ≤ aft p d) {out out' : Nat → Int} (hs : Sound n root chk succ okp aft out) (hc : Closed n chk succ okp aft out)
    (hs' : Sound n root chk succ okp aft out') (hc' : Closed n chk succ okp aft out') {p : Nat} (hp : p < n) : out p = out' p := by
  rcases hs.2.1 p hp with h | h
  · rcases hs'.2.1 p hp with h' | h'
    · rw [h, h']
    · have := (closed_reach hok hpos hs hc (hs'.1 p hp h')).2.1
      omega
  · have := (closed_reach hok hpos hs' hc' (hs.1 p hp h)).2.1
    omega
end
end Go.Proofs.YtclndbiljhbbkaaDoor

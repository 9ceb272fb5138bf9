/- Words for memory, over any program: what an argument's slices hold, and what stays. -/
import Derived.Deep.Slices
import Derived.Deep.Fields
import Derived.ChangeSame
import Derived.ChangeOld
import Derived.Lib.SmallJoins
import Derived.Below
import Derived.Handy
import Derived.Lib.Hide
import Derived.RegionTactic
import Derived.Deep.QuietTactic
import Derived.BigQuiet
import Derived.Outline
import Derived.OwnWalk
set_option linter.unusedVariables false
namespace Go.Proofs.Ytnojndgmgkgnpaa
open Go.ChangeShapes Go.WideShapes Go.ChangeAt Go.RowKit Go.Deep Go.Joins

/-! ### frames -/
theorem below_drewN {B : Nat} {a w : World} (h : Below B a w) (n : Nat) : Below B a (w.drewN n) := ⟨h.os, h.tape, h.output, h.size, h.block⟩
theorem Below.trans' {a b c : World} (h : Below a.heap.size a b) (k : Below b.heap.size b c) : Below a.heap.size a c := h.trans (k.mono h.size)

/-- in the current world c: the static memory w0, all that was before the call w, and the call's own boxes (made up to W) are as they were -/
structure Inv (w0 w W c : World) : Prop where
 b0 : Below w0.heap.size w0 c
 bw : Below w.heap.size w c
 bW : Below W.heap.size W c
section
variable {w0 w W c d e : World}
theorem Inv.start (h : Below w0.heap.size w0 w) (k : Below w.heap.size w W) : Inv w0 w W W := ⟨h.trans (k.mono h.size), k, Below.refl _ _⟩
theorem Inv.go (h : Inv w0 w W c) (k : Below c.heap.size c d) : Inv w0 w W d := ⟨h.b0.trans (k.mono h.b0.size), h.bw.trans (k.mono h.bw.size), h.bW.trans (k.mono h.bW.size)⟩
theorem Inv.step (h : Inv w0 w W c) (k : Below c.heap.size c d) (l : Below d.heap.size d e) : Inv w0 w W e := (h.go k).go l
theorem Inv.at0 (h : Inv w0 w W c) (k : Below c.heap.size c d) : Below w0.heap.size w0 d := (h.go k).b0
theorem Inv.out (h : Inv w0 w W c) (k : Below c.heap.size c d) : Below w.heap.size w d := (h.go k).bw
theorem Inv.cell (h : Inv w0 w W c) : ∀ b o, b < W.heap.size → c.cell? ⟨b, o, none⟩ = W.cell? ⟨b, o, none⟩ := fun b o hb => h.bW.cell (p := ⟨b, o, none⟩) hb
end

/-! ### a slice that reads as rows of 'size' cells -/
def Row (w : World) (A : Option Addr) (n size : Nat) (f : Nat → Nat → Value) : Prop :=
 0 < n → ∃ b off, A = some ⟨b, off, none⟩ ∧ b < w.heap.size ∧ ∀ i, i < n → ∀ j, j < size → w.cell? ⟨b, off + i * size + j, none⟩ = some (f i j)

section
variable {w w' : World} {A : Option Addr} {n size : Nat} {f : Nat → Nat → Value}
theorem Row.below (h : Row w A n size f) (hb : Below w.heap.size w w') : Row w' A n size f := fun hn => by
 obtain ⟨b, off, e, hlt, hc⟩ := h hn
 exact ⟨b, off, e, Nat.lt_of_lt_of_le hlt hb.size, fun i hi j hj => (hb.cell (p := ⟨b, _, none⟩) hlt).trans (hc i hi j hj)⟩
theorem Row.less {m : Nat} (h : Row w A n size f) (hm : m ≤ n) : Row w A m size f := fun hn => by
 obtain ⟨b, off, e, hlt, hc⟩ := h (Nat.lt_of_lt_of_le hn hm)
 exact ⟨b, off, e, hlt, fun i hi j hj => hc i (Nat.lt_of_lt_of_le hi hm) j hj⟩
end

theorem grown_of_below {w w' : World} (hb : Below w.heap.size w w') (row : Option Nat) : w.grownBy w' row := ⟨hb.os, hb.tape, hb.output, hb.size, fun k hk _ => hb.block k hk⟩
theorem ownsRow_below {w w' : World} {base : Nat} {e : TypeId} {size : Nat} {v : Value} {n : Nat} {xs : List Value} (h : w.ownsRow base e size v n xs) (hb : Below w.heap.size w w') : w'.ownsRow base e size v n xs :=
 h.kept (grown_of_below hb none) (by cases v.ownBlock <;> simp)
theorem ownsRow_mono {w : World} {base base' : Nat} {e : TypeId} {size : Nat} {v : Value} {n : Nat} {xs : List Value} (h : w.ownsRow base e size v n xs) (hb : base' ≤ base) : w.ownsRow base' e size v n xs := by
 refine ⟨h.1, ?_⟩
 rcases h.2 with hn | ⟨g, cap, cur, hv, hg, rest⟩
 ·exact .inl hn
 ·exact .inr ⟨g, cap, cur, hv, by omega, rest⟩
/-- behind an append to a row of the call's own: all below its base is as it was -/
theorem below_of_append {w w' : World} {base : Nat} {e : TypeId} {size : Nat} {v : Value} {n : Nat} {xs : List Value} (h : w.ownsRow base e size v n xs) (hg : w.grownBy w' v.ownBlock) (hb : base ≤ w.heap.size) : Below base w w' :=
 (Below.refl _ _).grown hg hb (fun k hk => (h.lt k hk).1)
theorem Inv.append {w0 w W c d : World} (h : Inv w0 w W c) {base : Nat} (hb : Below base c d) (h0 : w0.heap.size ≤ base) (h1 : w.heap.size ≤ base) (h2 : W.heap.size ≤ base) : Inv w0 w W d :=
 ⟨h.b0.trans (hb.mono h0), h.bw.trans (hb.mono h1), h.bW.trans (hb.mono h2)⟩
theorem cell_lt {w : World} {a : Addr} {v : Value} (h : w.cell? a = some v) : a.block < w.heap.size := by
 rcases Nat.lt_or_ge a.block w.heap.size with hl | hl
 ·exact hl
 ·unfold World.cell? at h; rw [Array.getElem?_eq_none hl] at h; cases h

theorem add_plain (b off k : Nat) : (⟨b, off, none⟩ : Addr).add k = ⟨b, off + k, none⟩ := by
 unfold Addr.add; split
 ·subst_vars; rfl
 ·rfl

section
variable {H : Type} {enc : TypeId × Value → H} {P : Program} {w : World} {base : Nat} {spare : Nat → Bool} {held : Bool}

/-- the cells of a block that was just made -/
theorem cells_new (w : World) (t : TypeId) (l : List Value) : ∀ (j : Nat) (u : Value), l[j]? = some u → (w.alloc (.cells l.toArray t)).cell? ((⟨w.heap.size, 0, none⟩ : Addr).add j) = some u := by
 intro j u hu
 rw [add_plain, Nat.zero_add, World.cell?_alloc_new]
 simpa using hu

def strOf : Value → ByteArray | .string s => s | _ => ⟨#[]⟩
def addrOf : Value → Option Addr | .slice a _ _ => a | _ => none
def lenOf : Value → Nat | .slice _ n _ => n | _ => 0
def capOf : Value → Nat | .slice _ _ c => c | _ => 0
end

theorem bl0 (B : Nat) (w : World) : Below B w w := Below.refl B w
theorem bl1 {B : Nat} {a w : World} (h : Below B a w) (n : Nat) : Below B a (w.drewN n) := below_drewN h n
theorem bl2 {B : Nat} {a w : World} (h : Below B a w) (hB : B ≤ w.heap.size) (o : Obj) : Below B a (w.alloc o) := h.alloc hB o
theorem bl3 {B : Nat} {a w : World} (h : Below B a w) : Below B a w.drew := h.drew
theorem bl4 {B : Nat} {a w : World} (h : Below B a w) {p : Addr} (hp : B ≤ p.block) (u : Value) : Below B a (w.setCell p u) := h.setCell hp u
theorem bel {B : Nat} {w w' : World} (h : Below B w w' := by (repeat' first | (with_reducible first | exact bl0 _ _ | assumption | apply bl1 | apply bl2 | apply bl3 | apply bl4) | go_size)) : Below B w w' := h
end Go.Proofs.Ytnojndgmgkgnpaa

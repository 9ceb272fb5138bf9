/- Words for a method. -/
import Derived.Test.YtnjfjebmkajpbaaJ3
import Derived.Test.YtnjfjebmkajpbaaD3
namespace Go.Proofs.Ytnjfjebmkajpbaa
open Go.ChangeShapes Go.WideShapes Go.ChangeAt Go.RowKit
set_option linter.unusedVariables false
set_option linter.unusedSimpArgs false

def kindAt (ts : List LitT) (j : Nat) : Int := match ts[j]? with | some t => t.kind | none => 0
def opOK (ts : List LitT) (temps fields : Int) (i : Ins) : Bool := opndV i.op i.a.toNat i.b.toNat ts.length temps fields (kindAt ts i.a.toNat == 3)
def headB (sel : ByteArray) (args temps prim fields : Int) : Bool := inB fields 0 8 && inB (sel.size : Int) 1 60 && inB args 0 4 && inB temps args 24 && inB prim 0 255
/-- all but blocks, jumps and depths -/
def PlainOK (sel : ByteArray) (args temps prim fields : Int) (ts : List LitT) (n : Nat) (C : Nat → Ins) : Prop :=
  headB sel args temps prim fields = true ∧ ts.all (okL 20) = true ∧ ts.length ≤ 60 ∧ inB (n : Int) 1 400 = true ∧ ∀ k, k < n → mayB (C k) = true ∧ opOK ts temps fields (C k) = true
def GoodM (sel : ByteArray) (args temps prim fields : Int) (ts : List LitT) (n : Nat) (C : Nat → Ins) : Prop := PlainOK sel args temps prim fields ts n C ∧ shapeB n C = true ∧ ¬ BadD n C
def DepthsPost (G : Prop) (n : Nat) (C : Nat → Ins) (w : World) (e : Ending) (w' : World) : Prop := Below w.heap.size w w' ∧
  ((G ∧ ∃ v F, e = .returned (.tuple #[v, .int .i64 0]) ∧ IntRow w' w.heap.size v n F ∧ SoundD n C F ∧ ClosedD n C F) ∨ (¬ G ∧ e = .returned (.tuple #[.slice none 0 0, .int .i64 19])))
theorem plain_small {sel : ByteArray} {args temps prim fields : Int} {ts : List LitT} {n : Nat} {C : Nat → Ins} (h : PlainOK sel args temps prim fields ts n C) : Small n C := fun k hk => by
  have := may_bounds (h.2.2.2.2 k hk).1
  omega
theorem allmay_small {n : Nat} {C : Nat → Ins} (h : AllMay n C) : Small n C := fun k hk => by
  have := may_bounds (h k hk)
  omega
theorem shape_ends {n : Nat} {C : Nat → Ins} (h : shapeB n C = true) : ∀ q, q < n → (C q).op = 18 → (q : Int) + 2 < endV n C q := fun q hq ho => by
  have hs := shape_all h hq
  rcases end_lt n C q with h1 | h1
  · unfold shapeAt at hs
    rw [if_pos ho, h1] at hs
    simp at hs
  · exact h1
theorem aftD_pos {n : Nat} {C : Nat → Ins} (hm : AllMay n C) : ∀ p d, p < n → chkD n C p d = true → 0 ≤ aftD C p d := fun p d hp h => aft_pos (hm p hp) h
theorem closed_reachD {n : Nat} {C : Nat → Ins} {F : Nat → Int} (hm : AllMay n C) (hs : SoundD n C F) (hc : ClosedD n C F) : ∀ {p d}, ReachD n C p d → p < n ∧ F p = d ∧ 0 ≤ d := by
  intro p d h
  induction h with
  | start p hp hr => exact ⟨hp, hs.2.2 p hp hr, by omega⟩
  | step p q d h1 h2 h3 h4 ih =>
    obtain ⟨i1, i2, i3⟩ := ih
    have hcl := hc p i1 (by omega)
    have h5 := (hcl.2 q h3).2
    rw [i2] at h5
    exact ⟨by have := okD_in p q h4; omega, by simpa using h5, aft_pos (hm p i1) h2⟩
theorem goodD {n : Nat} {C : Nat → Ins} {F : Nat → Int} (hm : AllMay n C) (hs : SoundD n C F) (hc : ClosedD n C F) : ¬ BadD n C := by
  rintro (⟨p, d, hr, h⟩ | ⟨p, d, e, h1, h2, hne⟩)
  · obtain ⟨i1, i2, i3⟩ := closed_reachD hm hs hc hr
    have hcl := hc p i1 (by omega)
    rw [ClosedAt, i2] at hcl
    rcases h with h | ⟨q, hq, h⟩
    · rw [hcl.1] at h; cases h
    · rw [(hcl.2 q hq).1] at h; cases h
  · have a := (closed_reachD hm hs hc h1).2.1
    have b := (closed_reachD hm hs hc h2).2.1
    exact hne (by omega)
/-- two answers that are sound and closed are one -/
theorem sameD {n : Nat} {C : Nat → Ins} {F G : Nat → Int} (hm : AllMay n C) (hs : SoundD n C F) (hc : ClosedD n C F) (hs' : SoundD n C G) (hc' : ClosedD n C G) {p : Nat} (hp : p < n) : F p = G p := by
  rcases hs.2.1 p hp with h | h
  · rcases hs'.2.1 p hp with h' | h'
    · rw [h, h']
    · have := (closed_reachD hm hs hc (hs'.1 p hp h')).2.1
      omega
  · have := (closed_reachD hm hs' hc' (hs.1 p hp h)).2.1
    omega
theorem kind_cell {w0 w : World} {p : Option Addr} {n : Nat} {F : Nat → Nat → Value} {ts : List LitT} (h : IsLits w0 p n F ts) (hB : Below w0.heap.size w0 w) {j : Nat} (hj : j < ts.length) : ∃ g off, p = some ⟨g, off, none⟩ ∧ w.cell? ⟨g, off + j * 4, none⟩ = some (.int .i64 (kindAt ts j)) := by
  obtain ⟨rfl, hrow, hl⟩ := h
  obtain ⟨g, off, e, hlt, hc⟩ := hrow (by omega)
  refine ⟨g, off, e, ?_⟩
  obtain ⟨_, _, _, e0, _⟩ := (hl j hj).cells
  have := (hB.cell (p := ⟨g, off + j * 4 + 0, none⟩) hlt).trans (hc j hj 0 (by omega))
  rw [e0] at this
  rw [Nat.add_zero] at this
  rw [this]
  unfold kindAt
  rw [List.getElem?_eq_getElem hj]

theorem opnd1_in {w0 w : World} {F : Nat → Nat → Value} (n5 c c5 : Nat) (p q : Option Addr) (sel : ByteArray) (args temps prim fields : Int) (ts : List LitT) (op a b : Int) (hl : IsLits w0 p ts.length F ts) (hB : Below w0.heap.size w0 w) (ha : 0 ≤ a) (ha2 : a ≤ 255) (hb : 0 ≤ b) (hb2 : b ≤ 255) (hc1 : ts.length ≤ c) (hc2 : c ≤ 9223372036854775807) :
    Calls Try.prog 22 #[.agg #[.string sel, .int .i64 args, .int .i64 temps, .int .i64 prim, .slice p ts.length c, .slice q n5 c5], .agg #[.int .i64 op, .int .i64 a, .int .i64 b], .int .i64 fields] w fun e w' => e = .returned (.bool (opOK ts temps fields ⟨op, a, b⟩)) ∧ Below w.heap.size w w' := by
  obtain ⟨j, rfl⟩ := Int.eq_ofNat_of_zero_le ha
  obtain ⟨k, rfl⟩ := Int.eq_ofNat_of_zero_le hb
  by_cases hj : j < ts.length
  · obtain ⟨g, off, e, hcell⟩ := kind_cell hl hB hj
    exact opnd1_any op j k ts.length c n5 c5 p q sel args temps prim fields (kindAt ts j) w (by omega) (by omega) hc1 hc2 g off (fun _ => e) (fun _ => hcell)
  · exact opnd1_any op j k ts.length c n5 c5 p q sel args temps prim fields (kindAt ts j) w (by omega) (by omega) hc1 hc2 0 0 (fun h => absurd h hj) (fun h => absurd h hj)

theorem opnd2_in {w0 w : World} {F : Nat → Nat → Value} (n5 c c5 : Nat) (p q : Option Addr) (sel : ByteArray) (args temps prim fields : Int) (ts : List LitT) (op a b : Int) (hl : IsLits w0 p ts.length F ts) (hB : Below w0.heap.size w0 w) (ha : 0 ≤ a) (ha2 : a ≤ 255) (hb : 0 ≤ b) (hb2 : b ≤ 255) (hc1 : ts.length ≤ c) (hc2 : c ≤ 9223372036854775807) :
    Calls Try.prog 43 #[.agg #[.string sel, .int .i64 args, .int .i64 temps, .int .i64 prim, .slice p ts.length c, .slice q n5 c5], .agg #[.int .i64 op, .int .i64 a, .int .i64 b], .int .i64 fields] w fun e w' => e = .returned (.bool (opOK ts temps fields ⟨op, a, b⟩)) ∧ Below w.heap.size w w' := by
  obtain ⟨j, rfl⟩ := Int.eq_ofNat_of_zero_le ha
  obtain ⟨k, rfl⟩ := Int.eq_ofNat_of_zero_le hb
  by_cases hj : j < ts.length
  · obtain ⟨g, off, e, hcell⟩ := kind_cell hl hB hj
    exact opnd2_any op j k ts.length c n5 c5 p q sel args temps prim fields (kindAt ts j) w (by omega) (by omega) hc1 hc2 g off (fun _ => e) (fun _ => hcell)
  · exact opnd2_any op j k ts.length c n5 c5 p q sel args temps prim fields (kindAt ts j) w (by omega) (by omega) hc1 hc2 0 0 (fun h => absurd h hj) (fun h => absurd h hj)
end Go.Proofs.Ytnjfjebmkajpbaa

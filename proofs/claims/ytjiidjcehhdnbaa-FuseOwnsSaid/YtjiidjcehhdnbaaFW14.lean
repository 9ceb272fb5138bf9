/- Chapter 18: what the statements' arguments hold; 'cut'. -/
import Derived.Test.YtjiidjcehhdnbaaFW10
import Derived.Test.YtjiidjcehhdnbaaRows
import Derived.ProofKit
import Derived.OpenShut
namespace Go.Proofs.Ytjiidjcehhdnbaa
open Go.ChangeShapes Go.WideShapes Go.ChangeAt Go.RowKit Go.Deep Go.Joins
set_option linter.unusedVariables false
set_option linter.unusedSimpArgs false

def litOf (F : Nat → Nat → Value) (i : Nat) : LitR := ⟨intOf (F i 0), strOf (F i 1), intOf (F i 2), addrOf (F i 3), lenOf (F i 3), capOf (F i 3)⟩
def insOf (F : Nat → Nat → Value) (i : Nat) : InsR := ⟨intOf (F i 0), intOf (F i 1), intOf (F i 2)⟩
section
variable {H : Type} {enc : TypeId × Value → H} {w : World} {base b0 : Nat} {spare : Nat → Bool} {held : Bool} {r : Reach}
theorem row_change {A : Option Addr} {n size : Nat} {f g : Nat → Nat → Value} (h : Row w A n size f) (e : ∀ i, i < n → ∀ j, j < size → f i j = g i j) : Row w A n size g := fun hn => by
  obtain ⟨b, off, e1, hlt, hc⟩ := h hn
  exact ⟨b, off, e1, hlt, fun i hi j hj => (hc i hi j hj).trans (by rw [e i hi j hj])⟩
theorem open_method {v : Value} {d : DataW H} {p : List MemPlace} (hv : Value.okWide Try.prog w r b0 25 v) (h : DataW.Trod enc Try.prog w base spare held 25 v d p) :
    ∃ s x0 x1 x2 LA ln lc CA cn cc L C, v = .agg #[.string s, .int .i64 x0, .int .i64 x1, .int .i64 x2, .slice LA ln lc, .slice CA cn cc] ∧ RawM w LA ln lc CA cn cc L C := by
  obtain ⟨cs, rfl, hsz, hf⟩ := open_agg Try.underlying25 (by kernel_rfl) (by kernel_rfl) hv h
  obtain ⟨a, b, c, d, e, f, rfl⟩ := agg6 hsz
  obtain ⟨k0, y0, t0⟩ := hf 0 _ a rfl rfl
  obtain ⟨k1, y1, t1⟩ := hf 1 _ b rfl rfl
  obtain ⟨k2, y2, t2⟩ := hf 2 _ c rfl rfl
  obtain ⟨k3, y3, t3⟩ := hf 3 _ d rfl rfl
  obtain ⟨k4, y4, t4⟩ := hf 4 _ e rfl rfl
  obtain ⟨k5, y5, t5⟩ := hf 5 _ f rfl rfl
  obtain ⟨e0, _⟩ := string_field Try.underlying9 t0
  obtain ⟨e1, _⟩ := int_field Try.underlying3 t1
  obtain ⟨e2, _⟩ := int_field Try.underlying3 t2
  obtain ⟨e3, _⟩ := int_field Try.underlying3 t3
  obtain ⟨LA, ln, lc, F, e4, hl, hm, hL, hLf⟩ := open_row Try.underlying22 Try.underlying58 (by kernel_rfl) (by kernel_rfl) (by decide) t4
  obtain ⟨CA, cn, cc, G, e5, hl', hm', hC, hCf⟩ := open_row Try.underlying23 Try.underlying56 (by kernel_rfl) (by kernel_rfl) (by decide) t5
  obtain rfl : e = .slice LA ln lc := by simpa using e4
  obtain rfl : f = .slice CA cn cc := by simpa using e5
  refine ⟨strOf a, intOf b, intOf c, intOf d, LA, ln, lc, CA, cn, cc, litOf F, insOf G, by rw [← e0, ← e1, ← e2, ← e3], row_change hL ?_, row_change hC ?_, hl, hl', hm, hm'⟩
  · intro i hi j hj
    obtain ⟨_, _, u0⟩ := hLf i hi 0 _ rfl
    obtain ⟨_, _, u1⟩ := hLf i hi 1 _ rfl
    obtain ⟨_, _, u2⟩ := hLf i hi 2 _ rfl
    obtain ⟨_, _, u3⟩ := hLf i hi 3 _ rfl
    match j, hj with
    | 0, _ => exact (int_field Try.underlying3 u0).1
    | 1, _ => exact (string_field Try.underlying9 u1).1
    | 2, _ => exact (int_field Try.underlying3 u2).1
    | 3, _ => exact slice_field Try.underlying22 u3
  · intro i hi j hj
    obtain ⟨_, _, u0⟩ := hCf i hi 0 _ rfl
    obtain ⟨_, _, u1⟩ := hCf i hi 1 _ rfl
    obtain ⟨_, _, u2⟩ := hCf i hi 2 _ rfl
    match j, hj with
    | 0, _ => exact (int_field Try.underlying3 u0).1
    | 1, _ => exact (int_field Try.underlying3 u1).1
    | 2, _ => exact (int_field Try.underlying3 u2).1
/-- a slice of ints that was handed in -/
structure RawW (w : World) (A : Option Addr) (n c : Nat) (F : Nat → Int) : Prop where
  row : Row w A n 1 (fun i _ => .int .i64 (F i))
  le : n ≤ c
  cap : c ≤ 9223372036854775807
theorem open_words {v : Value} {d : DataW H} {p : List MemPlace} (hv : Value.okWide Try.prog w r b0 36 v) (h : DataW.Trod enc Try.prog w base spare held 36 v d p) :
    ∃ A n c F, v = .slice A n c ∧ RawW w A n c F := by
  obtain ⟨a, n, c, rfl⟩ := okWide_slice Try.underlying36 hv
  obtain ⟨fuel, hf⟩ := h
  obtain ⟨A, n', c', F, e, hl, hm, hR, _⟩ := open_nums Try.underlying36 Try.underlying3 (by kernel_rfl) hf
  simp [Value.cells] at e
  obtain ⟨rfl, rfl, rfl⟩ := e
  exact ⟨_, _, _, F, rfl, hR, hl, hm⟩
end
theorem RawW.words {w : World} {A : Option Addr} {n c : Nat} {F : Nat → Int} (h : RawW w A n c F) : Words w A (fewN n 24) F :=
  ⟨h.row.less (fewN_le _ _).1, by have := (fewN_le n 24).2; omega⟩
theorem cut_any {w0 : World} {A : Option Addr} {n c : Nat} {F : Nat → Int} (h : RawW w0 A n c F) (w : World) :
    Calls Try.prog 13 #[.slice A n c] w fun e w' => e = .returned (.slice A (fewN n 24) c) ∧ w' = w := by
  have h1 := h.le; have h2 := h.cap
  by_cases g : 24 < n
  · rw [show fewN n 24 = 24 from if_pos g]
    have q : decide (24 < n) = true := decide_eq_true g
    have q' : (24 : Int) < n := by omega
    go_enter Try.func13, Try.ntmps13
    go_wp2
    go_ret
    exact ⟨rfl, rfl⟩
  · rw [show fewN n 24 = n from if_neg g]
    have q : decide (24 < n) = false := decide_eq_false g
    have q' : ¬ (24 : Int) < n := by omega
    go_enter Try.func13, Try.ntmps13
    go_wp2
    go_ret
    exact ⟨rfl, rfl⟩
end Go.Proofs.Ytjiidjcehhdnbaa

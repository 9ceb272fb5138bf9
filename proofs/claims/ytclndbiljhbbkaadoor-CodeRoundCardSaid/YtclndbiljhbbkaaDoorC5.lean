/- Chapter 09: what the statements' arguments hold; the laid tables. -/
import Derived.Test.YtclndbiljhbbkaaDoorC4
import Derived.Test.YtclndbiljhbbkaaDoorRows
import Derived.ProofKit
import Derived.OpenShut
import Derived.LaidMore
import Derived.Stop.Joined
import Derived.Lib.LaidTab
namespace Go.Proofs.YtclndbiljhbbkaaDoor
open Go.ChangeShapes Go.WideShapes Go.ChangeAt Go.RowKit Go.Deep Go.Joins Go.WideMaps Go.WideElems
set_option linter.unusedVariables false
set_option linter.unusedSimpArgs false
def insOf (F : Nat → Nat → Value) (i : Nat) : Ins := ⟨intOf (F i 0), intOf (F i 1), intOf (F i 2)⟩
section
variable {H : Type} {enc : TypeId × Value → H} {w : World} {base b0 : Nat} {spare : Nat → Bool} {held : Bool} {r : Go.Reach}
theorem row_change {A : Option Addr} {n size : Nat} {f g : Nat → Nat → Value} (h : Row w A n size f) (e : ∀ i, i < n → ∀ j, j < size → f i j = g i j) : Row w A n size g := fun hn => by
  obtain ⟨b, off, e1, hlt, hc⟩ := h hn
  exact ⟨b, off, e1, hlt, fun i hi j hj => (hc i hi j hj).trans (by rw [e i hi j hj])⟩
/-- a slice of instructions that was handed in -/
structure RawC (w : World) (A : Option Addr) (n c : Nat) (C : Nat → Ins) : Prop where
  row : IsCode w A n C
  le : n ≤ c
  cap : c ≤ 9223372036854775807
  bnd : ∀ i, i < n → InIns (C i)
theorem bounds9 {n : Int} (h : (Lit.int .i64 n).wf = true) : -9223372036854775808 ≤ n ∧ n ≤ 9223372036854775807 := bounds_i64 h
theorem open_codes {fuel : Nat} {cs : List Value} {x : DataW H × List MemPlace} (h : DataW.trod enc Tryd.prog w base spare held fuel 22 cs = some x) :
    ∃ A n c C, cs = [.slice A n c] ∧ RawC w A n c C := by
  obtain ⟨A, n, c, F, e, hl, hm, hR, hf⟩ := open_row Tryd.underlying22 Tryd.underlying31 (by kernel_rfl) (by kernel_rfl) (by decide) h
  refine ⟨A, n, c, insOf F, e, row_change hR ?_, hl, hm, fun i hi => ?_⟩
  · intro i hi j hj
    obtain ⟨_, _, u0⟩ := hf i hi 0 _ rfl
    obtain ⟨_, _, u1⟩ := hf i hi 1 _ rfl
    obtain ⟨_, _, u2⟩ := hf i hi 2 _ rfl
    match j, hj with
    | 0, _ => exact (int_field Tryd.underlying3 u0).1
    | 1, _ => exact (int_field Tryd.underlying3 u1).1
    | 2, _ => exact (int_field Tryd.underlying3 u2).1
  · obtain ⟨_, _, u0⟩ := hf i hi 0 _ rfl
    obtain ⟨_, _, u1⟩ := hf i hi 1 _ rfl
    obtain ⟨_, _, u2⟩ := hf i hi 2 _ rfl
    exact ⟨bounds9 (int_field Tryd.underlying3 u0).2, bounds9 (int_field Tryd.underlying3 u1).2, bounds9 (int_field Tryd.underlying3 u2).2⟩
theorem open_code {v : Value} {d : DataW H} {p : List MemPlace} (hv : Value.okWide Tryd.prog w r b0 22 v) (h : DataW.Trod enc Tryd.prog w base spare held 22 v d p) :
    ∃ A n c C, v = .slice A n c ∧ RawC w A n c C := by
  obtain ⟨a, n, c, rfl⟩ := okWide_slice Tryd.underlying22 hv
  obtain ⟨fuel, hf⟩ := h
  obtain ⟨A, n', c', C, e, hR⟩ := open_codes hf
  simp [Value.cells] at e
  obtain ⟨rfl, rfl, rfl⟩ := e
  exact ⟨_, _, _, C, rfl, hR⟩
/-- bytes that were handed in -/
structure RawB (w : World) (A : Option Addr) (n c : Nat) (F : Nat → Int) : Prop where
  row : Row w A n 1 (fun i _ => .int .u8 (F i))
  le : n ≤ c
  cap : c ≤ 9223372036854775807
  bnd : ∀ i, i < n → 0 ≤ F i ∧ F i ≤ 255
theorem open_bytes {v : Value} {d : DataW H} {p : List MemPlace} (hv : Value.okWide Tryd.prog w r b0 24 v) (h : DataW.Trod enc Tryd.prog w base spare held 24 v d p) :
    ∃ A n c F, v = .slice A n c ∧ RawB w A n c F := by
  obtain ⟨a, n, c, rfl⟩ := okWide_slice Tryd.underlying24 hv
  obtain ⟨fuel, hf⟩ := h
  obtain ⟨A, n', c', F, e, hl, hm, hR, hw⟩ := open_nums Tryd.underlying24 Tryd.underlying5 (by kernel_rfl) hf
  simp [Value.cells] at e
  obtain ⟨rfl, rfl, rfl⟩ := e
  refine ⟨_, _, _, F, rfl, hR, hl, hm, fun i hi => ?_⟩
  have := hw i hi
  simp [Lit.wf, show IntKind.u8.min = 0 from rfl, show IntKind.u8.max = 255 from rfl] at this
  omega
theorem open_instr {v : Value} {d : DataW H} {p : List MemPlace} (hv : Value.okWide Tryd.prog w r b0 31 v) (h : DataW.Trod enc Tryd.prog w base spare held 31 v d p) :
    ∃ op a b, v = .agg #[.int .i64 op, .int .i64 a, .int .i64 b] ∧ InIns ⟨op, a, b⟩ := by
  obtain ⟨cs, rfl, hsz, hf⟩ := open_agg Tryd.underlying31 (by kernel_rfl) (by kernel_rfl) hv h
  obtain ⟨a, b, c, rfl⟩ : ∃ a b c, cs = #[a, b, c] := by
    match cs, hsz with
    | ⟨[a, b, c]⟩, _ => exact ⟨a, b, c, rfl⟩
  obtain ⟨k0, y0, t0⟩ := hf 0 _ a rfl rfl
  obtain ⟨k1, y1, t1⟩ := hf 1 _ b rfl rfl
  obtain ⟨k2, y2, t2⟩ := hf 2 _ c rfl rfl
  obtain ⟨e0, f0⟩ := int_field Tryd.underlying3 t0
  obtain ⟨e1, f1⟩ := int_field Tryd.underlying3 t1
  obtain ⟨e2, f2⟩ := int_field Tryd.underlying3 t2
  exact ⟨intOf a, intOf b, intOf c, by rw [← e0, ← e1, ← e2], bounds9 f0, bounds9 f1, bounds9 f2⟩
end
/-! ### the laid tables -/
def laid4 : List (String × DataW Unit) := Rows.codePutsRow.laid
theorem cells_of_strs {H : Type} {enc : TypeId × Value → H} {P : Program} {w : World} {base : Nat} {sp : Nat → Bool} {held : Bool} {fuel : Nat} {t e : TypeId} {n : Nat} {cs : List Value} {zs : List (List UInt8)} {p : List MemPlace}
    (ht : P.underlying t = some (.array n e)) (he : P.underlying e = some .string) (hce : P.cellsOf e = 1) (hct : P.cellsOf t = n)
    (h : DataW.trod enc P w base sp held fuel t cs = some (.agg (zs.map fun z => .lit (.string z)), p)) : cs = zs.map strV := by
  obtain ⟨xs, m, rfl, hx, hlen, hn, hel⟩ := DataW.trod_array ht h
  have hxs : xs.map (·.1) = zs.map fun z => (DataW.lit (.string z) : DataW H) := by
    have := congrArg Prod.fst hx
    simpa using this.symm
  have hzl : zs.length = n := by
    have := congrArg List.length hxs
    simp at this
    omega
  apply List.ext_getElem?
  intro i
  by_cases hi : i < n
  · have hf := hel i hi
    rw [List.getElem?_eq_getElem (by omega), hce, Nat.mul_one] at hf
    obtain ⟨z, hc, hz, _⟩ := DataW.trod_string he hf
    have h1 : cs[i]? = some (.string z) := by
      have := congrArg (·[0]?) hc
      simpa [List.getElem?_take, List.getElem?_drop] using this
    have h2 : (xs.map (·.1))[i]? = some (DataW.lit (.string z.data.toList) : DataW H) := by rw [List.getElem?_map, List.getElem?_eq_getElem (by omega), hz]; rfl
    rw [hxs] at h2
    simp only [List.getElem?_map, Option.map_eq_some_iff, DataW.lit.injEq, Lit.string.injEq] at h2
    obtain ⟨z', hz', e2⟩ := h2
    rw [h1, List.getElem?_map, hz', Option.map_some, e2]
    rfl
  · rw [List.getElem?_eq_none (by omega), List.getElem?_eq_none (by simp; omega)]
theorem var_block {P : Program} {w : World} {n : String} {g : Nat} {cs : Array Value} (hg : P.globalNamed n = some g) (h : w.var? P n = some cs) : ∃ e fr, w.heap[g]? = some (.cells cs e fr) := by
  unfold World.var? at h
  rw [hg, Option.bind_some] at h
  split at h
  · rename_i c e fr hh
    cases h
    exact ⟨e, fr, hh⟩
  · cases h
theorem tabs_of_laid {W : World} (h : laidMetH Tryd.prog laid4 W) : TabsB W := by
  rw [MakeChecks.laidMetH_plain _ _ _ (by kernel_rfl)] at h
  obtain ⟨ps, ⟨g0, t0, cs0, f0, p0, q0, hg0, ht0, hv0, hd0, ⟨g1, t1, cs1, f1, p1, q1, hg1, ht1, hv1, hd1, ⟨g2, t2, cs2, f2, p2, q2, hg2, ht2, hv2, hd2, ⟨g3, t3, cs3, f3, p3, q3, hg3, ht3, hv3, hd3, _, _⟩, _⟩, _⟩, _⟩, _, _⟩ := h
  obtain rfl : g2 = 1 := Option.some.inj (hg2.symm.trans (by kernel_rfl))
  obtain rfl : g3 = 0 := Option.some.inj (hg3.symm.trans (by kernel_rfl))
  obtain ⟨e2, r2, b2⟩ := var_block hg2 hv2
  obtain ⟨e3, r3, b3⟩ := var_block hg3 hv3
  clear hd0 hd1 ht0 ht1 hv0 hv1
  obtain rfl : t2 = 60 := Option.some.inj (ht2.symm.trans (by kernel_rfl))
  obtain rfl : t3 = 49 := Option.some.inj (ht3.symm.trans (by kernel_rfl))
  have z2 := Lib.cells_of_tab (zs := Lib.pow10Tab) Tryd.underlying60 Tryd.underlying54 (by kernel_rfl) (by kernel_rfl) hd2
  have z3 := cells_of_strs (zs := namesL) Tryd.underlying49 Tryd.underlying9 (by kernel_rfl) (by kernel_rfl) hd3
  exact ⟨⟨e3, r3, by rw [b3]; congr; exact Array.toList_inj.1 (by rw [z3])⟩, ⟨e2, r2, by rw [b2]; congr; exact Array.toList_inj.1 (by rw [z2])⟩⟩
theorem own9 : ownKnob Tryd.prog.godebug = none := by kernel_rfl
theorem laidOut9 : laidOutB Tryd.prog = true := by kernel_rfl
set_option maxRecDepth 100000 in
/-- the heap that the program's own start leaves meets the condition -/
theorem door_met (os : Os) (args : Array Value) : laidMetH Tryd.prog laid4 ((World.doorLaid Tryd.prog 29 os).forCall (fun _ _ => 0) ⟨#[], args, []⟩).memory :=
  laidMetH_of_parts3 (fuel := 8) (laidMet_of_run' 8 (by kernel_rfl) (by kernel_rfl)) (by kernel_rfl) (by kernel_rfl)
end Go.Proofs.YtclndbiljhbbkaaDoor

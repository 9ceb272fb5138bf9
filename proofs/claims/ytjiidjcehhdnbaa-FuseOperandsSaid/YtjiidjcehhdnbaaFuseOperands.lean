/- The law FuseOperands of chapter 18 holds for every input: it returns true, and its arguments stay. No conditions. -/
import Derived.Test.YtjiidjcehhdnbaaRows
import Derived.Test.YtjiidjcehhdnbaaFW7
import Derived.Test.YtjiidjcehhdnbaaFW13
import Derived.Test.YtjiidjcehhdnbaaFW14
import Derived.WalkKit
import Derived.ProofKit
import Derived.OpenShut
import Derived.ShutString
import Derived.ChangeOld
import Derived.Below
namespace Go.Proofs.Ytjiidjcehhdnbaa.fuseOperands
open Go.ChangeShapes Go.WideShapes Go.ChangeAt Go.RowKit
set_option linter.unusedVariables false
set_option linter.unusedSimpArgs false

theorem own : ownKnob Try.prog.godebug = none := by kernel_rfl
theorem laidOut : laidOutB Try.prog = true := by kernel_rfl

set_option maxRecDepth 100000 in
set_option maxHeartbeats 8000000 in
theorem walk (w : World) (s : ByteArray) (x0 x1 x2 : Int) (LA : Option Addr) (ln lc : Nat) (CA : Option Addr) (cn cc : Nat) (L : Nat → LitR) (C : Nat → InsR) (R : RawM w LA ln lc CA cn cc L C) (a1 : Int) (a2 : Int) (A3 : Option Addr) (n3 c3 : Nat) (F3 : Nat → Int) (R3 : RawW w A3 n3 c3 F3) (A4 : Option Addr) (n4 c4 : Nat) (F4 : Nat → Int) (R4 : RawW w A4 n4 c4 F4) :
    Calls Try.prog 4 #[.agg #[.string s, .int .i64 x0, .int .i64 x1, .int .i64 x2, .slice LA ln lc, .slice CA cn cc], .int .i64 a1, .int .i64 a2, .slice A3 n3 c3, .slice A4 n4 c4] w fun e w' => e = .returned (.bool true) ∧ Below w.heap.size w w' := by
  obtain ⟨⟨a, o⟩, hO⟩ : ∃ t, opndV (fewN ln 30) L (fewN cn 100) C a2 (fewN n3 24) F3 (fewN n4 24) F4 a1 = t := ⟨_, rfl⟩
  have HO := Lib.hid hO
  clear hO
  go_enter Try.func4, Try.ntmps4
  go_upto_region 2 with (go_at_call 9; (with_reducible refine (few_any R (by (repeat' (first | (with_reducible exact Below.refl _ _) | (with_reducible assumption) | (with_reducible refine below_drewN ?_ _) | (with_reducible refine Below.alloc ?_ ?_ _) | (with_reducible refine Below.drew ?_) | (with_reducible refine Below.setCell ?_ ?_ _) | go_size)))).mono ?_); rintro e w1 ⟨ok, rfl, h1, h2, hb⟩; have hS := thru hb (show Below w.heap.size w _ by (repeat' (first | (with_reducible exact Below.refl _ _) | (with_reducible assumption) | (with_reducible refine below_drewN ?_ _) | (with_reducible refine Below.alloc ?_ ?_ _) | (with_reducible refine Below.drew ?_) | (with_reducible refine Below.setCell ?_ ?_ _) | go_size))); obtain ⟨hc, hf⟩ := bcell hb; obtain ⟨hl, hl'⟩ := bsize hb; (try simp only [World.size_alloc, World.size_setCell, World.size_drew, size_drewN] at hc hf hl hl'))
  have hw1 : w.heap.size < w1.heap.size := by first | assumption | omega | exact hl _ (by omega)
  obtain ⟨Y, hY⟩ : ∃ Y, (World.setCell (World.setCell (World.setCell (World.setCell (World.setCell (World.setCell w1 ⟨w.heap.size, 0, none⟩ (.string s)) ⟨w.heap.size, 1, none⟩ (.int .i64 x0)) ⟨w.heap.size, 2, none⟩ (.int .i64 x1)) ⟨w.heap.size, 3, none⟩ (.int .i64 x2)) ⟨w.heap.size, 4, none⟩ (.slice LA (fewN ln 30) lc)) ⟨w.heap.size, 5, none⟩ (.slice CA (fewN cn 100) cc)) = Y := ⟨_, rfl⟩
  rw [hY]
  have y0 : Y.cell? ⟨w.heap.size, 0, none⟩ = some (.string s) := by subst hY; simp [go_sem, *]
  have y1 : Y.cell? ⟨w.heap.size, 1, none⟩ = some (.int .i64 x0) := by subst hY; simp [go_sem, *]
  have y2 : Y.cell? ⟨w.heap.size, 2, none⟩ = some (.int .i64 x1) := by subst hY; simp [go_sem, *]
  have y3 : Y.cell? ⟨w.heap.size, 3, none⟩ = some (.int .i64 x2) := by subst hY; simp [go_sem, *]
  have y4 : Y.cell? ⟨w.heap.size, 4, none⟩ = some (.slice LA (fewN ln 30) lc) := by subst hY; simp [go_sem, *]
  have y5 : Y.cell? ⟨w.heap.size, 5, none⟩ = some (.slice CA (fewN cn 100) cc) := by subst hY; simp [go_sem, *]
  have yl : w.heap.size < Y.heap.size := by subst hY; simp only [World.size_alloc, World.size_setCell, World.size_drew, size_drewN]; exact hw1
  have hYb : Below w.heap.size w Y := by subst hY; (repeat' (first | (with_reducible exact Below.refl _ _) | (with_reducible assumption) | (with_reducible refine below_drewN ?_ _) | (with_reducible refine Below.alloc ?_ ?_ _) | (with_reducible refine Below.drew ?_) | (with_reducible refine Below.setCell ?_ ?_ _) | go_size))
  have hI : Inv w w Y Y := Inv.start (Below.refl _ _) hYb
  clear hY hc hf hl hl' hb hS hYb hw1
  cases o
  all_goals
    go_wp2_with (first | (go_at_call 10; (with_reducible refine (lives_any _).mono ?_); rintro e w2 ⟨rfl, hb⟩; (try clear hc0 hf0 hl0); replace hI := hI.step (by (repeat' (first | (with_reducible exact Below.refl _ _) | (with_reducible assumption) | (with_reducible refine below_drewN ?_ _) | (with_reducible refine Below.alloc ?_ ?_ _) | (with_reducible refine Below.drew ?_) | (with_reducible refine Below.setCell ?_ ?_ _) | go_size))) hb; clear hb; have hc0 := fun o => hI.cell w.heap.size o yl; have hf0 := fun o => hI.frozen w.heap.size o yl; have hl0 := hI.lt_ yl) | (go_at_call 13; (with_reducible refine (cut_any R3 _).mono ?_); rintro e w3 ⟨rfl, hw3⟩; replace hw3 := hw3.symm; subst hw3) | (go_at_call 13; (with_reducible refine (cut_any R4 _).mono ?_); rintro e w3 ⟨rfl, hw3⟩; replace hw3 := hw3.symm; subst hw3) | (go_at_call 14; (with_reducible refine (opnd_any R.isM R3.words R4.words (hI.at0 (by (repeat' (first | (with_reducible exact Below.refl _ _) | (with_reducible assumption) | (with_reducible refine below_drewN ?_ _) | (with_reducible refine Below.alloc ?_ ?_ _) | (with_reducible refine Below.drew ?_) | (with_reducible refine Below.setCell ?_ ?_ _) | go_size)))) _).mono ?_); rw [HO.out]; rintro e w2 ⟨rfl, hb⟩; (try clear hc0 hf0 hl0); replace hI := hI.step (by (repeat' (first | (with_reducible exact Below.refl _ _) | (with_reducible assumption) | (with_reducible refine below_drewN ?_ _) | (with_reducible refine Below.alloc ?_ ?_ _) | (with_reducible refine Below.drew ?_) | (with_reducible refine Below.setCell ?_ ?_ _) | go_size))) hb; clear hb; have hc0 := fun o => hI.cell w.heap.size o yl; have hf0 := fun o => hI.frozen w.heap.size o yl; have hl0 := hI.lt_ yl) | (go_at_call 15; (with_reducible refine (ropnd2_any R.isM R3.words R4.words (hI.at0 (by (repeat' (first | (with_reducible exact Below.refl _ _) | (with_reducible assumption) | (with_reducible refine below_drewN ?_ _) | (with_reducible refine Below.alloc ?_ ?_ _) | (with_reducible refine Below.drew ?_) | (with_reducible refine Below.setCell ?_ ?_ _) | go_size)))) _).mono ?_); rw [HO.out]; rintro e w2 ⟨rfl, hb⟩; (try clear hc0 hf0 hl0); replace hI := hI.step (by (repeat' (first | (with_reducible exact Below.refl _ _) | (with_reducible assumption) | (with_reducible refine below_drewN ?_ _) | (with_reducible refine Below.alloc ?_ ?_ _) | (with_reducible refine Below.drew ?_) | (with_reducible refine Below.setCell ?_ ?_ _) | go_size))) hb; clear hb; have hc0 := fun o => hI.cell w.heap.size o yl; have hf0 := fun o => hI.frozen w.heap.size o yl; have hl0 := hI.lt_ yl))
    all_goals
      go_ret
      refine ⟨rfl, ?_⟩
      (have hS := hI.bw; have hV := hS.size; (repeat' (first | (with_reducible exact Below.refl _ _) | (with_reducible assumption) | (with_reducible refine below_drewN ?_ _) | (with_reducible refine Below.alloc ?_ ?_ _) | (with_reducible refine Below.drew ?_) | (with_reducible refine Below.setCell ?_ ?_ _) | go_size)))

/-! ### the row's step -/
set_option maxRecDepth 100000 in
theorem lifted (os : Os) (started : os.Started) (H : Type) (enc : TypeId × Value → H) :
    ReturnsInHanded {} Try.checked os 4 .any (Rows.fuseOperandsSpec.pre6 enc Try.prog Try.f4 Rows.fuseOperandsRow.domain false) (Rows.fuseOperandsSpec.post enc Try.prog Try.f4 false true false false) := by
  refine returnsInHanded_of_change (C := Try.checked) own started (by kernel_rfl) Try.func4
    (ChangeSpec.witness6 (enc := enc) (C := Try.checked) false ⟨#[], #[.agg #[.string ⟨#[]⟩, .int .i64 0, .int .i64 0, .int .i64 0, .slice none 0 0, .slice none 0 0], .int .i64 0, .int .i64 0, .slice none 0 0, .slice none 0 0], []⟩ 8 (by kernel_rfl) (by kernel_rfl) (by kernel_rfl) (by kernel_rfl)) ?_
  intro W base args ds gs before hval0 hW hcnd _
  have hval : ∀ (j : Nat) t v, Try.f4.params[j]? = some t → args[j]? = some v → Value.okWide Try.prog W .any base t v := hval0
  have hW' := hW
  obtain ⟨p, q, hA0, hV, rfl, hfz, hnd⟩ := hW
  have hA : DataW.TrodAll enc Try.prog W 0 (fun _ => true) true Try.f4.params.toList args.toList ds p := hA0
  rw [Try.params4] at hA hval
  obtain ⟨v0, vs0, d0, ds0, p0, q0, hargs, rfl, rfl, h0, r0⟩ := trodAll_cons hA
  obtain ⟨v1, vs1, d1, ds1, p1, q1, rfl, rfl, rfl, h1, r1⟩ := trodAll_cons r0
  obtain ⟨v2, vs2, d2, ds2, p2, q2, rfl, rfl, rfl, h2, r2⟩ := trodAll_cons r1
  obtain ⟨v3, vs3, d3, ds3, p3, q3, rfl, rfl, rfl, h3, r3⟩ := trodAll_cons r2
  obtain ⟨v4, vs4, d4, ds4, p4, q4, rfl, rfl, rfl, h4, r4⟩ := trodAll_cons r3
  obtain ⟨rfl, rfl, rfl⟩ := trodAll_nil r4
  obtain rfl : args = #[v0, v1, v2, v3, v4] := by cases args; simp_all
  obtain ⟨rfl, rfl⟩ := trodVars_none hV
  have k0 := h0
  have lt0 : ∀ x ∈ p0, x.block < W.heap.size := by obtain ⟨m, hm⟩ := k0; exact DataW.trod_lt m _ _ _ hm
  obtain ⟨s, x0, x1, x2, LA, ln, lc, CA, cn, cc, L, C, rfl, R⟩ := open_method (hval 0 25 v0 rfl rfl) h0
  obtain ⟨a1, rfl, rfl, rfl, w1⟩ := open_int Try.underlying3 (hval 1 3 v1 rfl rfl) h1
  obtain ⟨a2, rfl, rfl, rfl, w2⟩ := open_int Try.underlying3 (hval 2 3 v2 rfl rfl) h2
  have k3 := h3
  have lt3 : ∀ x ∈ p3, x.block < W.heap.size := by obtain ⟨m, hm⟩ := k3; exact DataW.trod_lt m _ _ _ hm
  obtain ⟨A3, n3, c3, F3, rfl, R3⟩ := open_words (hval 3 36 v3 rfl rfl) h3
  have k4 := h4
  have lt4 : ∀ x ∈ p4, x.block < W.heap.size := by obtain ⟨m, hm⟩ := k4; exact DataW.trod_lt m _ _ _ hm
  obtain ⟨A4, n4, c4, F4, rfl, R4⟩ := open_words (hval 4 36 v4 rfl rfl) h4
  clear hA0 hval0
  refine (walk W _ _ _ _ _ _ _ _ _ _ _ _ R _ _ _ _ _ _ R3 _ _ _ _ R4).mono fun e W' ⟨he, bel⟩ => ?_
  subst he
  exact ⟨_, rfl, _, _, _, [], _, [], hW', trodAll_mk1 (shut_bool Try.underlying4 _), (trodAll_cons_mk (Below.trod laidOut (by kernel_rfl) (of_decide_eq_true (by kernel_rfl)) k0 bel lt0) (trodAll_cons_mk (shut_int Try.underlying3 w1) (trodAll_cons_mk (shut_int Try.underlying3 w2) (trodAll_cons_mk (Below.trod laidOut (by kernel_rfl) (of_decide_eq_true (by kernel_rfl)) k3 bel lt3) (trodAll_cons_mk (Below.trod laidOut (by kernel_rfl) (of_decide_eq_true (by kernel_rfl)) k4 bel lt4) trodAll_mk0))))), rfl, bel.frame _, fun h => by cases h⟩

theorem over : Rows.fuseOperandsRow.holds Try.pinned (OpenSpec.ofChange Rows.fuseOperandsSpec) :=
  OpenClaim.holds_of_wide 4 Try.f4 rfl rfl rfl rfl rfl rfl rfl ⟨rfl, rfl, rfl, rfl, rfl⟩ rfl rfl rfl rfl rfl (by kernel_rfl) Try.func4 (by kernel_rfl)
    (of_decide_eq_true (by kernel_rfl)) (by unfold Func.isWrapper; first | (rw [if_pos (by decide +kernel)]; kernel_rfl) | (rw [if_neg (by decide +kernel)]; exact ⟨rfl, rfl⟩))
    (fun os started H enc _ => lifted os started H enc)

theorem proved : Rows.FuseOperandsSaid := over
end Go.Proofs.Ytjiidjcehhdnbaa.fuseOperands

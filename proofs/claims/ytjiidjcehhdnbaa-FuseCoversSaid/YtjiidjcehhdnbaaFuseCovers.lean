/- The law FuseCovers of chapter 18 holds for every input: it returns true, and its arguments stay. No conditions. -/
import Derived.Test.YtjiidjcehhdnbaaRows
import Derived.Test.YtjiidjcehhdnbaaFW7
import Derived.Test.YtjiidjcehhdnbaaFW8
import Derived.Test.YtjiidjcehhdnbaaFW13
import Derived.Test.YtjiidjcehhdnbaaFW14
import Derived.Test.YtjiidjcehhdnbaaFW15
import Derived.WalkKit
import Derived.ProofKit
import Derived.OpenShut
import Derived.ShutString
import Derived.ChangeOld
import Derived.Below
namespace Go.Proofs.Ytjiidjcehhdnbaa.fuseCovers
open Go.ChangeShapes Go.WideShapes Go.ChangeAt Go.RowKit
set_option linter.unusedVariables false
set_option linter.unusedSimpArgs false

theorem own : ownKnob Try.prog.godebug = none := by kernel_rfl
theorem laidOut : laidOutB Try.prog = true := by kernel_rfl

set_option maxRecDepth 100000 in
set_option maxHeartbeats 8000000 in
theorem walk (w : World) (s : ByteArray) (x0 x1 x2 : Int) (LA : Option Addr) (ln lc : Nat) (CA : Option Addr) (cn cc : Nat) (L : Nat → LitR) (C : Nat → InsR) (R : RawM w LA ln lc CA cn cc L C) :
    Calls Try.prog 8 #[.agg #[.string s, .int .i64 x0, .int .i64 x1, .int .i64 x2, .slice LA ln lc, .slice CA cn cc]] w fun e w' => e = .returned (.bool true) ∧ Below w.heap.size w w' := by
  go_enter Try.func8, Try.ntmps8
  go_upto_region 2 with (go_at_call 9; (with_reducible refine (few_any R (by (repeat' (first | (with_reducible exact Below.refl _ _) | (with_reducible assumption) | (with_reducible refine below_drewN ?_ _) | (with_reducible refine Below.alloc ?_ ?_ _) | (with_reducible refine Below.drew ?_) | (with_reducible refine Below.setCell ?_ ?_ _) | go_size)))).mono ?_); rintro e w1 ⟨ok, rfl, h1, h2, hb⟩; have hS := thru hb (show Below w.heap.size w _ by (repeat' (first | (with_reducible exact Below.refl _ _) | (with_reducible assumption) | (with_reducible refine below_drewN ?_ _) | (with_reducible refine Below.alloc ?_ ?_ _) | (with_reducible refine Below.drew ?_) | (with_reducible refine Below.setCell ?_ ?_ _) | go_size))); obtain ⟨hc, hf⟩ := bcell hb; obtain ⟨hl, hl'⟩ := bsize hb; (try simp only [World.size_alloc, World.size_setCell, World.size_drew, size_drewN] at hc hf hl hl'))
  have hw1 : w.heap.size < w1.heap.size := by first | assumption | omega | exact hl _ (by omega)
  obtain ⟨Y, hY⟩ : ∃ Y, (World.setCell (World.setCell (World.setCell (World.setCell (World.setCell (World.setCell w1 ⟨w.heap.size, 0, none⟩ (.string s)) ⟨w.heap.size, 1, none⟩ (.int .i64 x0)) ⟨w.heap.size, 2, none⟩ (.int .i64 x1)) ⟨w.heap.size, 3, none⟩ (.int .i64 x2)) ⟨w.heap.size, 4, none⟩ (.slice LA (fewN ln 30) lc)) ⟨w.heap.size, 5, none⟩ (.slice CA (fewN cn 100) cc)) = Y := ⟨_, rfl⟩
  rw [hY]
  have y0 : Y.cell? ⟨w.heap.size, 0, none⟩ = some (.string s) := by subst hY; simp [go_sem, *]
  have y1 : Y.cell? ⟨w.heap.size, 1, none⟩ = some (.int .i64 x0) := by subst hY; simp [go_sem, *]
  have y2 : Y.cell? ⟨w.heap.size, 2, none⟩ = some (.int .i64 x1) := by subst hY; simp [go_sem, *]
  have y3 : Y.cell? ⟨w.heap.size, 3, none⟩ = some (.int .i64 x2) := by subst hY; simp [go_sem, *]
  have y4 : Y.cell? ⟨w.heap.size, 4, none⟩ = some (.slice LA (fewN ln 30) lc) := by subst hY; simp [go_sem, *]
  have y5 : Y.cell? ⟨w.heap.size, 5, none⟩ = some (.slice CA (fewN cn 100) cc) := by subst hY; simp [go_sem, *]
  have yl : w.heap.size < Y.heap.size := by subst hY; simp only [World.size_alloc, World.size_setCell, World.size_drew, size_drewN]; exact hw1
  have hYb : Below w.heap.size w Y := by subst hY; (repeat' (first | (with_reducible exact Below.refl _ _) | (with_reducible assumption) | (with_reducible refine below_drewN ?_ _) | (with_reducible refine Below.alloc ?_ ?_ _) | (with_reducible refine Below.drew ?_) | (with_reducible refine Below.setCell ?_ ?_ _) | go_size))
  have hI : Inv w w Y Y := Inv.start (Below.refl _ _) hYb
  clear hY hc hf hl hl' hb hS hYb hw1
  go_wp2_with (first | (go_at_call 10; (with_reducible refine (lives_any _).mono ?_); rintro e w2 ⟨rfl, hb⟩; (try clear hc0 hf0 hl0); replace hI := hI.step (by (repeat' (first | (with_reducible exact Below.refl _ _) | (with_reducible assumption) | (with_reducible refine below_drewN ?_ _) | (with_reducible refine Below.alloc ?_ ?_ _) | (with_reducible refine Below.drew ?_) | (with_reducible refine Below.setCell ?_ ?_ _) | go_size))) hb; clear hb; have hc0 := fun o => hI.cell w.heap.size o yl; have hf0 := fun o => hI.frozen w.heap.size o yl; have hl0 := hI.lt_ yl) | (go_at_call 11; (with_reducible refine (plan_any R.isM (hI.at0 (by (repeat' (first | (with_reducible exact Below.refl _ _) | (with_reducible assumption) | (with_reducible refine below_drewN ?_ _) | (with_reducible refine Below.alloc ?_ ?_ _) | (with_reducible refine Below.drew ?_) | (with_reducible refine Below.setCell ?_ ?_ _) | go_size))))).mono ?_); rintro e w2 ⟨v, rfl, hv, hb⟩; (try clear hc0 hf0 hl0); replace hI := hI.step (by (repeat' (first | (with_reducible exact Below.refl _ _) | (with_reducible assumption) | (with_reducible refine below_drewN ?_ _) | (with_reducible refine Below.alloc ?_ ?_ _) | (with_reducible refine Below.drew ?_) | (with_reducible refine Below.setCell ?_ ?_ _) | go_size))) hb; clear hb; have hc0 := fun o => hI.cell w.heap.size o yl; have hf0 := fun o => hI.frozen w.heap.size o yl; have hl0 := hI.lt_ yl; obtain ⟨A, cap, rfl, hrow, hcap, hmax, hbase⟩ := plan_row hv; clear hv))
  · go_ret
    refine ⟨rfl, ?_⟩
    (have hS := hI.bw; have hV := hS.size; (repeat' (first | (with_reducible exact Below.refl _ _) | (with_reducible assumption) | (with_reducible refine below_drewN ?_ _) | (with_reducible refine Below.alloc ?_ ?_ _) | (with_reducible refine Below.drew ?_) | (with_reducible refine Below.setCell ?_ ?_ _) | go_size)))
  · have z0 := (hc0 0).trans y0
    have z1 := (hc0 1).trans y1
    have z2 := (hc0 2).trans y2
    have z3 := (hc0 3).trans y3
    have z4 := (hc0 4).trans y4
    have z5 := (hc0 5).trans y5
    have zl := hl0
    have hB2 := hI.bw
    have hcode : Row w2 CA (fewN cn 100) 3 (fun i => insCell (C i)) := R.isM.code.below hB2
    clear hc0 hf0 hl0 hI y0 y1 y2 y3 y4 y5 yl
    go_loopw [5] (fun i wr => ∃ k : Nat, k ≤ fewN cn 100 ∧ i = .int .i64 k ∧ Inv w w w2 wr) (fun i _ => fewN cn 100 - (intOf i).toNat)
    case atStart => exact ⟨0, Nat.zero_le _, rfl, Inv.start (Below.refl _ _) hB2⟩
    case round =>
      obtain ⟨k, hk, rfl, hI⟩ := hrel
      by_cases hlt : k < fewN cn 100
      · have hlt' : decide (k < fewN cn 100) = true := decide_eq_true hlt
        obtain ⟨g, off, rfl, hgl, hcell⟩ := hrow (by omega)
        have e0 : w2.cell? ⟨g, off + k * 3, none⟩ = some (strokeCell (strokeV (fewN ln 30) L (fewN cn 100) C (k : Int)) 0) := hcell k hlt 0 (by omega)
        have e1 : w2.cell? ⟨g, off + k * 3 + 1, none⟩ = some (strokeCell (strokeV (fewN ln 30) L (fewN cn 100) C (k : Int)) 1) := hcell k hlt 1 (by omega)
        have e2 : w2.cell? ⟨g, off + k * 3 + 2, none⟩ = some (strokeCell (strokeV (fewN ln 30) L (fewN cn 100) C (k : Int)) 2) := hcell k hlt 2 (by omega)
        clear hcell hrow hbase
        have hc0 := fun o => hI.cell w.heap.size o zl
        have hcg := fun o => hI.cell g o hgl
        rcases stroke_covers (ln := fewN ln 30) (L := L) (cn := fewN cn 100) (C := C) (k : Int) with hs | ⟨sk, n, hs, h3, h4, h5, hp, hcov, hq⟩
        · rw [hs] at e0 e1 e2
          have c0 : w2.cell? ⟨g, off + k * 3, none⟩ = some (.int .i64 0) := e0
          have c1 : w2.cell? ⟨g, off + k * 3 + 1, none⟩ = some (.int .i64 0) := e1
          have c2 : w2.cell? ⟨g, off + k * 3 + 2, none⟩ = some (.int .i64 0) := e2
          clear e0 e1 e2 hs
          go_wp2
          go_roundw
          case rel => exact ⟨k + 1, by omega, by go_num, hI.go (by (repeat' (first | (with_reducible exact Below.refl _ _) | (with_reducible assumption) | (with_reducible refine below_drewN ?_ _) | (with_reducible refine Below.alloc ?_ ?_ _) | (with_reducible refine Below.drew ?_) | (with_reducible refine Below.setCell ?_ ?_ _) | go_size)))⟩
          case measure => simp [intOf]; omega
        · rw [hs] at e0 e1 e2
          have c0 : w2.cell? ⟨g, off + k * 3, none⟩ = some (.int .i64 sk) := e0
          have c1 : w2.cell? ⟨g, off + k * 3 + 1, none⟩ = some (.int .i64 k) := e1
          have c2 : w2.cell? ⟨g, off + k * 3 + 2, none⟩ = some (.int .i64 n) := e2
          clear e0 e1 e2 hs
          have d1 : decide ((n : Int) < 2) = false := decide_eq_false (by omega)
          have d2 : decide (4 < (n : Int)) = false := decide_eq_false (by omega)
          have d3 : decide (((fewN cn 100 : Nat) : Int) < (k : Int) + (n : Int)) = false := decide_eq_false (by omega)
          have d1' : decide (n < 2) = false := decide_eq_false (by omega)
          have d2' : decide (4 < n) = false := decide_eq_false (by omega)
          have d3' : decide (fewN cn 100 < k + n) = false := decide_eq_false (by omega)
          have b1 : k + n ≤ fewN cn 100 := by omega
          have HQ := Lib.hid hq
          clear hq
          go_wp2_with fail
          go_quiet (fail)
          go_wp2_with fail
          go_loop [6] (fun q => ∃ m : Nat, k ≤ m ∧ m ≤ k + n ∧ q = .int .i64 m) (fun q => k + n - (intOf q).toNat)
          case atStart => exact ⟨k, by omega, by omega, rfl⟩
          case round =>
            obtain ⟨m, hm1, hm2, rfl⟩ := hrel
            by_cases hlm : m < k + n
            · have hlm1 : decide (m < k + n) = true := decide_eq_true hlm
              have hlm2 : decide ((m : Int) < (k : Int) + (n : Int)) = true := decide_eq_true (by omega)
              obtain ⟨b, off', rfl, hbl, hcc⟩ := hcode (by omega)
              have hcb := fun o => hI.cell b o hbl
              have i0 : w2.cell? ⟨b, off' + m * 3, none⟩ = some (.int .i64 (C m).op) := hcc m (by omega) 0 (by omega)
              have hok := HQ.out m (by omega) (by omega)
              rw [show insAt (fewN cn 100) C (m : Int) = C m from if_pos ⟨by omega, by omega⟩] at hok
              obtain ⟨o1, o2, o3, o4, o5⟩ := hok
              clear hcc hcode
              go_wp2
              go_round
              case rel => exact ⟨m + 1, by omega, by omega, by go_num⟩
              case measure => simp [intOf]; omega
            · have hlm1 : decide (m < k + n) = false := decide_eq_false hlm
              have hlm2 : decide ((m : Int) < (k : Int) + (n : Int)) = false := decide_eq_false (by omega)
              go_wp2
              go_roundw
              case rel => exact ⟨k + 1, by omega, by go_num, hI.go (by (repeat' (first | (with_reducible exact Below.refl _ _) | (with_reducible assumption) | (with_reducible refine below_drewN ?_ _) | (with_reducible refine Below.alloc ?_ ?_ _) | (with_reducible refine Below.drew ?_) | (with_reducible refine Below.setCell ?_ ?_ _) | go_size)))⟩
              case measure => simp [intOf]; omega
      · have hkn : k = fewN cn 100 := by omega
        have hlt' : decide (k < fewN cn 100) = false := decide_eq_false hlt
        go_wp2_with (go_at_call 10; (with_reducible refine (lives_any _).mono ?_); rintro e w3 ⟨rfl, hb⟩; replace hI := hI.step (by (repeat' (first | (with_reducible exact Below.refl _ _) | (with_reducible assumption) | (with_reducible refine below_drewN ?_ _) | (with_reducible refine Below.alloc ?_ ?_ _) | (with_reducible refine Below.drew ?_) | (with_reducible refine Below.setCell ?_ ?_ _) | go_size))) hb; clear hb)
        go_ret
        refine ⟨rfl, ?_⟩
        (have hS := hI.bw; have hV := hS.size; (repeat' (first | (with_reducible exact Below.refl _ _) | (with_reducible assumption) | (with_reducible refine below_drewN ?_ _) | (with_reducible refine Below.alloc ?_ ?_ _) | (with_reducible refine Below.drew ?_) | (with_reducible refine Below.setCell ?_ ?_ _) | go_size)))

/-! ### the row's step -/
set_option maxRecDepth 100000 in
theorem lifted (os : Os) (started : os.Started) (H : Type) (enc : TypeId × Value → H) :
    ReturnsInHanded {} Try.checked os 8 .any (Rows.fuseCoversSpec.pre6 enc Try.prog Try.f8 Rows.fuseCoversRow.domain false) (Rows.fuseCoversSpec.post enc Try.prog Try.f8 false true false false) := by
  refine returnsInHanded_of_change (C := Try.checked) own started (by kernel_rfl) Try.func8
    (ChangeSpec.witness6 (enc := enc) (C := Try.checked) false ⟨#[], #[.agg #[.string ⟨#[]⟩, .int .i64 0, .int .i64 0, .int .i64 0, .slice none 0 0, .slice none 0 0]], []⟩ 8 (by kernel_rfl) (by kernel_rfl) (by kernel_rfl) (by kernel_rfl)) ?_
  intro W base args ds gs before hval0 hW hcnd _
  have hval : ∀ (j : Nat) t v, Try.f8.params[j]? = some t → args[j]? = some v → Value.okWide Try.prog W .any base t v := hval0
  have hW' := hW
  obtain ⟨p, q, hA0, hV, rfl, hfz, hnd⟩ := hW
  have hA : DataW.TrodAll enc Try.prog W 0 (fun _ => true) true Try.f8.params.toList args.toList ds p := hA0
  rw [Try.params8] at hA hval
  obtain ⟨v0, vs0, d0, ds0, p0, q0, hargs, rfl, rfl, h0, r0⟩ := trodAll_cons hA
  obtain ⟨rfl, rfl, rfl⟩ := trodAll_nil r0
  obtain rfl : args = #[v0] := by cases args; simp_all
  obtain ⟨rfl, rfl⟩ := trodVars_none hV
  have k0 := h0
  have lt0 : ∀ x ∈ p0, x.block < W.heap.size := by obtain ⟨m, hm⟩ := k0; exact DataW.trod_lt m _ _ _ hm
  obtain ⟨s, x0, x1, x2, LA, ln, lc, CA, cn, cc, L, C, rfl, R⟩ := open_method (hval 0 25 v0 rfl rfl) h0
  clear hA0 hval0
  refine (walk W _ _ _ _ _ _ _ _ _ _ _ _ R).mono fun e W' ⟨he, bel⟩ => ?_
  subst he
  exact ⟨_, rfl, _, _, _, [], _, [], hW', trodAll_mk1 (shut_bool Try.underlying4 _), (trodAll_cons_mk (Below.trod laidOut (by kernel_rfl) (of_decide_eq_true (by kernel_rfl)) k0 bel lt0) trodAll_mk0), rfl, bel.frame _, fun h => by cases h⟩

theorem over : Rows.fuseCoversRow.holds Try.pinned (OpenSpec.ofChange Rows.fuseCoversSpec) :=
  OpenClaim.holds_of_wide 8 Try.f8 rfl rfl rfl rfl rfl rfl rfl ⟨rfl, rfl, rfl, rfl, rfl⟩ rfl rfl rfl rfl rfl (by kernel_rfl) Try.func8 (by kernel_rfl)
    (of_decide_eq_true (by kernel_rfl)) (by unfold Func.isWrapper; first | (rw [if_pos (by decide +kernel)]; kernel_rfl) | (rw [if_neg (by decide +kernel)]; exact ⟨rfl, rfl⟩))
    (fun os started H enc _ => lifted os started H enc)

theorem proved : Rows.FuseCoversSaid := over
end Go.Proofs.Ytjiidjcehhdnbaa.fuseCovers

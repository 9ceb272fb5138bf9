/- The law FuseForged of chapter 18 holds for every input: it returns true, and its arguments stay. No conditions. -/
import Derived.Test.YtjiidjcehhdnbaaRows
import Derived.Test.YtjiidjcehhdnbaaFW7
import Derived.Test.YtjiidjcehhdnbaaFW8
import Derived.Test.YtjiidjcehhdnbaaFW11
import Derived.Test.YtjiidjcehhdnbaaFW13
import Derived.Test.YtjiidjcehhdnbaaFW14
import Derived.Test.YtjiidjcehhdnbaaFW15
import Derived.Test.YtjiidjcehhdnbaaFW24
import Derived.WalkKit
import Derived.Deep.DeepCutAuto
import Derived.Deep.RegionHeld3
import Derived.ProofKit
import Derived.OpenShut
import Derived.ShutString
import Derived.ChangeOld
import Derived.Below
namespace Go.Proofs.Ytjiidjcehhdnbaa.fuseForged
open Go.ChangeShapes Go.WideShapes Go.ChangeAt Go.RowKit
set_option linter.unusedVariables false
set_option linter.unusedSimpArgs false

theorem own : ownKnob Try.prog.godebug = none := by kernel_rfl
theorem laidOut : laidOutB Try.prog = true := by kernel_rfl

set_option maxRecDepth 100000 in
set_option maxHeartbeats 8000000 in
theorem walk (w : World) (s : ByteArray) (x0 x1 x2 : Int) (LA : Option Addr) (ln lc : Nat) (CA : Option Addr) (cn cc : Nat) (L : Nat → LitR) (C : Nat → InsR) (R : RawM w LA ln lc CA cn cc L C) (a1 : Int) (a2 : Int) (a3 : Int) (A4 : Option Addr) (n4 c4 : Nat) (F4 : Nat → Int) (R4 : RawW w A4 n4 c4 F4) :
    Calls Try.prog 6 #[.agg #[.string s, .int .i64 x0, .int .i64 x1, .int .i64 x2, .slice LA ln lc, .slice CA cn cc], .int .i64 a1, .int .i64 a2, .int .i64 a3, .slice A4 n4 c4] w fun e w' => e = .returned (.bool true) ∧ Below w.heap.size w w' := by
  obtain ⟨v, hv⟩ : ∃ t, applyV (fewN ln 30) L (fewN cn 100) C 3 (fewN n4 24) F4 0 (fun _ => 0) a1 a2 a3 = t := ⟨_, rfl⟩
  have HV := Lib.hid hv
  clear hv
  go_enter Try.func6, Try.ntmps6
  go_upto_region 2 with (go_at_call 9; (with_reducible refine (few_any R (by (repeat' (first | (with_reducible exact Below.refl _ _) | (with_reducible assumption) | (with_reducible refine below_drewN ?_ _) | (with_reducible refine Below.alloc ?_ ?_ _) | (with_reducible refine Below.drew ?_) | (with_reducible refine Below.setCell ?_ ?_ _) | go_size)))).mono ?_); rintro e w1 ⟨ok, rfl, h1, h2, hb⟩; have hS := thru hb (show Below w.heap.size w _ by (repeat' (first | (with_reducible exact Below.refl _ _) | (with_reducible assumption) | (with_reducible refine below_drewN ?_ _) | (with_reducible refine Below.alloc ?_ ?_ _) | (with_reducible refine Below.drew ?_) | (with_reducible refine Below.setCell ?_ ?_ _) | go_size))); obtain ⟨hc, hf⟩ := bcell hb; obtain ⟨hl, hl'⟩ := bsize hb; (try simp only [World.size_alloc, World.size_setCell, World.size_drew, size_drewN] at hc hf hl hl'))
  have hw1 : w.heap.size < w1.heap.size := by first | assumption | omega | exact hl _ (by omega)
  obtain ⟨Y, hY⟩ : ∃ Y, (World.setCell (World.setCell (World.setCell (World.setCell (World.setCell (World.setCell w1 ⟨w.heap.size, 0, none⟩ (.string s)) ⟨w.heap.size, 1, none⟩ (.int .i64 x0)) ⟨w.heap.size, 2, none⟩ (.int .i64 x1)) ⟨w.heap.size, 3, none⟩ (.int .i64 x2)) ⟨w.heap.size, 4, none⟩ (.slice LA (fewN ln 30) lc)) ⟨w.heap.size, 5, none⟩ (.slice CA (fewN cn 100) cc)) = Y := ⟨_, rfl⟩
  rw [hY]
  have y0 : Y.cell? ⟨w.heap.size, 0, none⟩ = some (.string s) := by subst hY; simp [go_sem, *]
  have y1 : Y.cell? ⟨w.heap.size, 1, none⟩ = some (.int .i64 x0) := by subst hY; simp [go_sem, *]
  have y2 : Y.cell? ⟨w.heap.size, 2, none⟩ = some (.int .i64 x1) := by subst hY; simp [go_sem, *]
  have y3 : Y.cell? ⟨w.heap.size, 3, none⟩ = some (.int .i64 x2) := by subst hY; simp [go_sem, *]
  have y4 : Y.cell? ⟨w.heap.size, 4, none⟩ = some (.slice LA (fewN ln 30) lc) := by subst hY; simp [go_sem, *]
  have y5 : Y.cell? ⟨w.heap.size, 5, none⟩ = some (.slice CA (fewN cn 100) cc) := by subst hY; simp [go_sem, *]
  have yl : w.heap.size < Y.heap.size := by subst hY; simp only [World.size_alloc, World.size_setCell, World.size_drew, size_drewN]; exact hw1
  have hYb : Below w.heap.size w Y := by subst hY; (repeat' (first | (with_reducible exact Below.refl _ _) | (with_reducible assumption) | (with_reducible refine below_drewN ?_ _) | (with_reducible refine Below.alloc ?_ ?_ _) | (with_reducible refine Below.drew ?_) | (with_reducible refine Below.setCell ?_ ?_ _) | go_size))
  have hI : Inv w w Y Y := Inv.start (Below.refl _ _) hYb
  clear hY hc hf hl hl' hb hS hYb hw1
  cases ok
  · go_wp2_with (go_at_call 10; (with_reducible refine (lives_any _).mono ?_); rintro e w2 ⟨rfl, hb⟩; (try clear hc0 hf0 hl0); replace hI := hI.step (by (repeat' (first | (with_reducible exact Below.refl _ _) | (with_reducible assumption) | (with_reducible refine below_drewN ?_ _) | (with_reducible refine Below.alloc ?_ ?_ _) | (with_reducible refine Below.drew ?_) | (with_reducible refine Below.setCell ?_ ?_ _) | go_size))) hb; clear hb; have hc0 := fun o => hI.cell w.heap.size o yl; have hf0 := fun o => hI.frozen w.heap.size o yl; have hl0 := hI.lt_ yl)
    go_ret
    refine ⟨rfl, ?_⟩
    (have hS := hI.bw; have hV := hS.size; (repeat' (first | (with_reducible exact Below.refl _ _) | (with_reducible assumption) | (with_reducible refine below_drewN ?_ _) | (with_reducible refine Below.alloc ?_ ?_ _) | (with_reducible refine Below.drew ?_) | (with_reducible refine Below.setCell ?_ ?_ _) | go_size)))
  · have hG := h1 rfl
    clear h1 h2
    go_upto_region 5 with fail
    go_cut [14] (fun is wd => is = .bool v.ok ∧ Below Y.heap.size Y wd)
    case first =>
      go_region_held3 (fun w' => w'.cell? ⟨w.heap.size, 0, none⟩ = some (.string s) ∧ w'.cell? ⟨w.heap.size, 1, none⟩ = some (.int .i64 x0) ∧ w'.cell? ⟨w.heap.size, 2, none⟩ = some (.int .i64 x1) ∧ w'.cell? ⟨w.heap.size, 3, none⟩ = some (.int .i64 x2) ∧ w'.cell? ⟨w.heap.size, 4, none⟩ = some (.slice LA (fewN ln 30) lc) ∧ w'.cell? ⟨w.heap.size, 5, none⟩ = some (.slice CA (fewN cn 100) cc) ∧ w'.cell? ⟨Y.heap.size, 0, none⟩ = some (.int .i64 a1) ∧ w'.cell? ⟨Y.heap.size, 1, none⟩ = some (.int .i64 a2) ∧ w'.cell? ⟨Y.heap.size, 2, none⟩ = some (.int .i64 a3)) (first | assumption | (simp [go_sem]; done) | (simp [go_sem, *]; done)) (first | (go_at_call 13; (with_reducible refine (cut_any R4 _).mono ?_); rintro e w3 ⟨rfl, hw3⟩; replace hw3 := hw3.symm; subst hw3) | (go_at_call 16; (with_reducible refine (app_any (TF := F4) (FF := fun _ => 0) R.isM hG R4.words (Words.none_ _) (hI.at0 (by (repeat' (first | (with_reducible exact Below.refl _ _) | (with_reducible assumption) | (with_reducible refine below_drewN ?_ _) | (with_reducible refine Below.alloc ?_ ?_ _) | (with_reducible refine Below.drew ?_) | (with_reducible refine Below.setCell ?_ ?_ _) | go_size)))) a1 a2 a3).mono ?_); rw [HV.out]; rintro e w2 ⟨PV, rfl, hp, hb'⟩; obtain ⟨PA, pc, rfl, hrow, _, _⟩ := own_row1 hp; clear hp; have z0' : w2.cell? ⟨w.heap.size, 0, none⟩ = some (.string s) := below_cell hb' (by (first | assumption | (simp [go_sem]; done) | (simp [go_sem, *]; done))); have z1' : w2.cell? ⟨w.heap.size, 1, none⟩ = some (.int .i64 x0) := below_cell hb' (by (first | assumption | (simp [go_sem]; done) | (simp [go_sem, *]; done))); have z2' : w2.cell? ⟨w.heap.size, 2, none⟩ = some (.int .i64 x1) := below_cell hb' (by (first | assumption | (simp [go_sem]; done) | (simp [go_sem, *]; done))); have z3' : w2.cell? ⟨w.heap.size, 3, none⟩ = some (.int .i64 x2) := below_cell hb' (by (first | assumption | (simp [go_sem]; done) | (simp [go_sem, *]; done))); have z4' : w2.cell? ⟨w.heap.size, 4, none⟩ = some (.slice LA (fewN ln 30) lc) := below_cell hb' (by (first | assumption | (simp [go_sem]; done) | (simp [go_sem, *]; done))); have z5' : w2.cell? ⟨w.heap.size, 5, none⟩ = some (.slice CA (fewN cn 100) cc) := below_cell hb' (by (first | assumption | (simp [go_sem]; done) | (simp [go_sem, *]; done))); have o0' : w2.cell? ⟨Y.heap.size, 0, none⟩ = some (.int .i64 a1) := below_cell hb' (by (first | assumption | (simp [go_sem]; done) | (simp [go_sem, *]; done))); have o1' : w2.cell? ⟨Y.heap.size, 1, none⟩ = some (.int .i64 a2) := below_cell hb' (by (first | assumption | (simp [go_sem]; done) | (simp [go_sem, *]; done))); have o2' : w2.cell? ⟨Y.heap.size, 2, none⟩ = some (.int .i64 a3) := below_cell hb' (by (first | assumption | (simp [go_sem]; done) | (simp [go_sem, *]; done))); obtain ⟨hcb, hfb⟩ := bcell hb'; (try have ec0 := fun o => hcb (Y.heap.size + 1) o (by simp only [World.size_alloc, World.size_setCell, World.size_drew, size_drewN]; omega)); (try have ef0 := fun o => hfb (Y.heap.size + 1) o (by simp only [World.size_alloc, World.size_setCell, World.size_drew, size_drewN]; omega)); (try have el0 : Y.heap.size + 1 < w2.heap.size := Nat.lt_of_lt_of_le (by simp only [World.size_alloc, World.size_setCell, World.size_drew, size_drewN]; omega) hb'.size); have lt1' := cell_lt z0'; (try dsimp only at lt1'); have lt2' := cell_lt o0'; (try dsimp only at lt2'); clear hcb hfb))
      all_goals
        go_wp2_with fail
        go_meet
        refine ⟨rfl, ?_⟩
        have hT := thru hb' (show Below Y.heap.size Y _ by (repeat' (first | (with_reducible exact Below.refl _ _) | (with_reducible assumption) | (with_reducible refine below_drewN ?_ _) | (with_reducible refine Below.alloc ?_ ?_ _) | (with_reducible refine Below.drew ?_) | (with_reducible refine Below.setCell ?_ ?_ _) | go_size)))
        have hTs := hT.size
        (repeat' (first | (with_reducible exact Below.refl _ _) | (with_reducible assumption) | (with_reducible refine below_drewN ?_ _) | (with_reducible refine Below.alloc ?_ ?_ _) | (with_reducible refine Below.drew ?_) | (with_reducible refine Below.setCell ?_ ?_ _) | go_size))
    case rest =>
      obtain ⟨rfl, hb⟩ := hcut
      (try clear hc0 hf0 hl0); replace hI := hI.step (by (repeat' (first | (with_reducible exact Below.refl _ _) | (with_reducible assumption) | (with_reducible refine below_drewN ?_ _) | (with_reducible refine Below.alloc ?_ ?_ _) | (with_reducible refine Below.drew ?_) | (with_reducible refine Below.setCell ?_ ?_ _) | go_size))) hb; clear hb; have hc0 := fun o => hI.cell w.heap.size o yl; have hf0 := fun o => hI.frozen w.heap.size o yl; have hl0 := hI.lt_ yl
      have zz0 := y0
      obtain ⟨⟨sk, sa, sn⟩, hs⟩ : ∃ t, strokeV (fewN ln 30) L (fewN cn 100) C a2 = t := ⟨_, rfl⟩
      have HS := Lib.hid hs
      rcases stroke_shape (ln := fewN ln 30) (L := L) (cn := fewN cn 100) (C := C) a2 with hz | ⟨k', n', hz, h3, h4, h5, h6⟩
      · rw [hs] at hz
        cases hz
        clear hs
        have o : v.ok = false := by rw [← HV.out, apply_none HS.out (by by_cases h : a1 = 0; exact .inl h; exact .inr (.inr (fun e => h e.1.symm)))]; rfl
        go_wp2_with (first | (go_at_call 12; (with_reducible refine (rstroke_any R.isM (hI.at0 (by (repeat' (first | (with_reducible exact Below.refl _ _) | (with_reducible assumption) | (with_reducible refine below_drewN ?_ _) | (with_reducible refine Below.alloc ?_ ?_ _) | (with_reducible refine Below.drew ?_) | (with_reducible refine Below.setCell ?_ ?_ _) | go_size)))) _).mono ?_); rw [HS.out]; rintro e w3 ⟨rfl, hb⟩; (try clear hc0 hf0 hl0); replace hI := hI.step (by (repeat' (first | (with_reducible exact Below.refl _ _) | (with_reducible assumption) | (with_reducible refine below_drewN ?_ _) | (with_reducible refine Below.alloc ?_ ?_ _) | (with_reducible refine Below.drew ?_) | (with_reducible refine Below.setCell ?_ ?_ _) | go_size))) hb; clear hb; have hc0 := fun o => hI.cell w.heap.size o yl; have hf0 := fun o => hI.frozen w.heap.size o yl; have hl0 := hI.lt_ yl) | (go_at_call 10; (with_reducible refine (lives_any _).mono ?_); rintro e w2 ⟨rfl, hb⟩; (try clear hc0 hf0 hl0); replace hI := hI.step (by (repeat' (first | (with_reducible exact Below.refl _ _) | (with_reducible assumption) | (with_reducible refine below_drewN ?_ _) | (with_reducible refine Below.alloc ?_ ?_ _) | (with_reducible refine Below.drew ?_) | (with_reducible refine Below.setCell ?_ ?_ _) | go_size))) hb; clear hb; have hc0 := fun o => hI.cell w.heap.size o yl; have hf0 := fun o => hI.frozen w.heap.size o yl; have hl0 := hI.lt_ yl))
        go_ret
        refine ⟨rfl, ?_⟩
        (have hS := hI.bw; have hV := hS.size; (repeat' (first | (with_reducible exact Below.refl _ _) | (with_reducible assumption) | (with_reducible refine below_drewN ?_ _) | (with_reducible refine Below.alloc ?_ ?_ _) | (with_reducible refine Below.drew ?_) | (with_reducible refine Below.setCell ?_ ?_ _) | go_size)))
      · rw [hs] at hz
        cases hz
        clear hs h4 h5 h6
        have d0 : (sk == 0) = false := by simp; omega
        cases d1 : (sk == a1)
        · have d1' : (sk != a1) = true := by simp [bne, d1]
          have o : v.ok = false := by rw [← HV.out, apply_none HS.out (.inr (.inr (fun e => by rw [e.1] at d1; simp at d1)))]; rfl
          go_wp2_with (first | (go_at_call 12; (with_reducible refine (rstroke_any R.isM (hI.at0 (by (repeat' (first | (with_reducible exact Below.refl _ _) | (with_reducible assumption) | (with_reducible refine below_drewN ?_ _) | (with_reducible refine Below.alloc ?_ ?_ _) | (with_reducible refine Below.drew ?_) | (with_reducible refine Below.setCell ?_ ?_ _) | go_size)))) _).mono ?_); rw [HS.out]; rintro e w3 ⟨rfl, hb⟩; (try clear hc0 hf0 hl0); replace hI := hI.step (by (repeat' (first | (with_reducible exact Below.refl _ _) | (with_reducible assumption) | (with_reducible refine below_drewN ?_ _) | (with_reducible refine Below.alloc ?_ ?_ _) | (with_reducible refine Below.drew ?_) | (with_reducible refine Below.setCell ?_ ?_ _) | go_size))) hb; clear hb; have hc0 := fun o => hI.cell w.heap.size o yl; have hf0 := fun o => hI.frozen w.heap.size o yl; have hl0 := hI.lt_ yl) | (go_at_call 10; (with_reducible refine (lives_any _).mono ?_); rintro e w2 ⟨rfl, hb⟩; (try clear hc0 hf0 hl0); replace hI := hI.step (by (repeat' (first | (with_reducible exact Below.refl _ _) | (with_reducible assumption) | (with_reducible refine below_drewN ?_ _) | (with_reducible refine Below.alloc ?_ ?_ _) | (with_reducible refine Below.drew ?_) | (with_reducible refine Below.setCell ?_ ?_ _) | go_size))) hb; clear hb; have hc0 := fun o => hI.cell w.heap.size o yl; have hf0 := fun o => hI.frozen w.heap.size o yl; have hl0 := hI.lt_ yl))
          go_ret
          refine ⟨rfl, ?_⟩
          (have hS := hI.bw; have hV := hS.size; (repeat' (first | (with_reducible exact Below.refl _ _) | (with_reducible assumption) | (with_reducible refine below_drewN ?_ _) | (with_reducible refine Below.alloc ?_ ?_ _) | (with_reducible refine Below.drew ?_) | (with_reducible refine Below.setCell ?_ ?_ _) | go_size)))
        · obtain rfl : a1 = sk := by have := d1; simp at this; exact this.symm
          cases d2 : (sn == a3)
          · have d2' : (sn != a3) = true := by simp [bne, d2]
            have o : v.ok = false := by rw [← HV.out, apply_none HS.out (.inr (.inr (fun e => by rw [e.2.2] at d2; simp at d2)))]; rfl
            go_wp2_with (first | (go_at_call 12; (with_reducible refine (rstroke_any R.isM (hI.at0 (by (repeat' (first | (with_reducible exact Below.refl _ _) | (with_reducible assumption) | (with_reducible refine below_drewN ?_ _) | (with_reducible refine Below.alloc ?_ ?_ _) | (with_reducible refine Below.drew ?_) | (with_reducible refine Below.setCell ?_ ?_ _) | go_size)))) _).mono ?_); rw [HS.out]; rintro e w3 ⟨rfl, hb⟩; (try clear hc0 hf0 hl0); replace hI := hI.step (by (repeat' (first | (with_reducible exact Below.refl _ _) | (with_reducible assumption) | (with_reducible refine below_drewN ?_ _) | (with_reducible refine Below.alloc ?_ ?_ _) | (with_reducible refine Below.drew ?_) | (with_reducible refine Below.setCell ?_ ?_ _) | go_size))) hb; clear hb; have hc0 := fun o => hI.cell w.heap.size o yl; have hf0 := fun o => hI.frozen w.heap.size o yl; have hl0 := hI.lt_ yl) | (go_at_call 10; (with_reducible refine (lives_any _).mono ?_); rintro e w2 ⟨rfl, hb⟩; (try clear hc0 hf0 hl0); replace hI := hI.step (by (repeat' (first | (with_reducible exact Below.refl _ _) | (with_reducible assumption) | (with_reducible refine below_drewN ?_ _) | (with_reducible refine Below.alloc ?_ ?_ _) | (with_reducible refine Below.drew ?_) | (with_reducible refine Below.setCell ?_ ?_ _) | go_size))) hb; clear hb; have hc0 := fun o => hI.cell w.heap.size o yl; have hf0 := fun o => hI.frozen w.heap.size o yl; have hl0 := hI.lt_ yl))
            go_ret
            refine ⟨rfl, ?_⟩
            (have hS := hI.bw; have hV := hS.size; (repeat' (first | (with_reducible exact Below.refl _ _) | (with_reducible assumption) | (with_reducible refine below_drewN ?_ _) | (with_reducible refine Below.alloc ?_ ?_ _) | (with_reducible refine Below.drew ?_) | (with_reducible refine Below.setCell ?_ ?_ _) | go_size)))
          · obtain rfl : a3 = sn := by have := d2; simp at this; exact this.symm
            cases d3 : (a1 == 5)
            · go_upto_region 9 with (first | (go_at_call 12; (with_reducible refine (rstroke_any R.isM (hI.at0 (by (repeat' (first | (with_reducible exact Below.refl _ _) | (with_reducible assumption) | (with_reducible refine below_drewN ?_ _) | (with_reducible refine Below.alloc ?_ ?_ _) | (with_reducible refine Below.drew ?_) | (with_reducible refine Below.setCell ?_ ?_ _) | go_size)))) _).mono ?_); rw [HS.out]; rintro e w3 ⟨rfl, hb⟩; (try clear hc0 hf0 hl0); replace hI := hI.step (by (repeat' (first | (with_reducible exact Below.refl _ _) | (with_reducible assumption) | (with_reducible refine below_drewN ?_ _) | (with_reducible refine Below.alloc ?_ ?_ _) | (with_reducible refine Below.drew ?_) | (with_reducible refine Below.setCell ?_ ?_ _) | go_size))) hb; clear hb; have hc0 := fun o => hI.cell w.heap.size o yl; have hf0 := fun o => hI.frozen w.heap.size o yl; have hl0 := hI.lt_ yl) | (go_at_call 10; (with_reducible refine (lives_any _).mono ?_); rintro e w2 ⟨rfl, hb⟩; (try clear hc0 hf0 hl0); replace hI := hI.step (by (repeat' (first | (with_reducible exact Below.refl _ _) | (with_reducible assumption) | (with_reducible refine below_drewN ?_ _) | (with_reducible refine Below.alloc ?_ ?_ _) | (with_reducible refine Below.drew ?_) | (with_reducible refine Below.setCell ?_ ?_ _) | go_size))) hb; clear hb; have hc0 := fun o => hI.cell w.heap.size o yl; have hf0 := fun o => hI.frozen w.heap.size o yl; have hl0 := hI.lt_ yl))
              go_cut [18] (fun was wd => was = .bool v.ok ∧ Below w3.heap.size w3 wd)
              case first =>
                go_region_held3 (fun w' => w'.cell? ⟨w.heap.size, 0, none⟩ = some (.string s) ∧ w'.cell? ⟨w.heap.size, 1, none⟩ = some (.int .i64 x0) ∧ w'.cell? ⟨w.heap.size, 2, none⟩ = some (.int .i64 x1) ∧ w'.cell? ⟨w.heap.size, 3, none⟩ = some (.int .i64 x2) ∧ w'.cell? ⟨w.heap.size, 4, none⟩ = some (.slice LA (fewN ln 30) lc) ∧ w'.cell? ⟨w.heap.size, 5, none⟩ = some (.slice CA (fewN cn 100) cc)) (first | assumption | (simp [go_sem]; done) | (simp [go_sem, *]; done)) (first | (go_at_call 13; (with_reducible refine (cut_any R4 _).mono ?_); rintro e w3 ⟨rfl, hw3⟩; replace hw3 := hw3.symm; subst hw3) | (go_at_call 17; (with_reducible refine (done_any (self := 3) (TF := F4) (FF := fun _ => 0) R.isM hG R4.words (Words.none_ _) (hI.at0 (by (repeat' (first | (with_reducible exact Below.refl _ _) | (with_reducible assumption) | (with_reducible refine below_drewN ?_ _) | (with_reducible refine Below.alloc ?_ ?_ _) | (with_reducible refine Below.drew ?_) | (with_reducible refine Below.setCell ?_ ?_ _) | go_size)))) a1 a2 a3 HS.out (by assumption) (by assumption)).mono ?_); rw [HV.out]; rintro e w4 ⟨A, cap, rfl, hrow, hb'⟩; have z0' : w4.cell? ⟨w.heap.size, 0, none⟩ = some (.string s) := below_cell hb' (by (first | assumption | (simp [go_sem]; done) | (simp [go_sem, *]; done))); have z1' : w4.cell? ⟨w.heap.size, 1, none⟩ = some (.int .i64 x0) := below_cell hb' (by (first | assumption | (simp [go_sem]; done) | (simp [go_sem, *]; done))); have z2' : w4.cell? ⟨w.heap.size, 2, none⟩ = some (.int .i64 x1) := below_cell hb' (by (first | assumption | (simp [go_sem]; done) | (simp [go_sem, *]; done))); have z3' : w4.cell? ⟨w.heap.size, 3, none⟩ = some (.int .i64 x2) := below_cell hb' (by (first | assumption | (simp [go_sem]; done) | (simp [go_sem, *]; done))); have z4' : w4.cell? ⟨w.heap.size, 4, none⟩ = some (.slice LA (fewN ln 30) lc) := below_cell hb' (by (first | assumption | (simp [go_sem]; done) | (simp [go_sem, *]; done))); have z5' : w4.cell? ⟨w.heap.size, 5, none⟩ = some (.slice CA (fewN cn 100) cc) := below_cell hb' (by (first | assumption | (simp [go_sem]; done) | (simp [go_sem, *]; done))); obtain ⟨hcb, hfb⟩ := bcell hb'; (try have ec0 := fun o => hcb (w3.heap.size) o (by simp only [World.size_alloc, World.size_setCell, World.size_drew, size_drewN]; omega)); (try have ef0 := fun o => hfb (w3.heap.size) o (by simp only [World.size_alloc, World.size_setCell, World.size_drew, size_drewN]; omega)); (try have el0 : w3.heap.size < w4.heap.size := Nat.lt_of_lt_of_le (by simp only [World.size_alloc, World.size_setCell, World.size_drew, size_drewN]; omega) hb'.size); have lt1' := cell_lt z0'; (try dsimp only at lt1'); clear hcb hfb))
                all_goals
                  go_wp2_with fail
                  go_meet
                  refine ⟨rfl, ?_⟩
                  have hT := thru hb' (show Below w3.heap.size w3 _ by (repeat' (first | (with_reducible exact Below.refl _ _) | (with_reducible assumption) | (with_reducible refine below_drewN ?_ _) | (with_reducible refine Below.alloc ?_ ?_ _) | (with_reducible refine Below.drew ?_) | (with_reducible refine Below.setCell ?_ ?_ _) | go_size)))
                  have hTs := hT.size
                  (repeat' (first | (with_reducible exact Below.refl _ _) | (with_reducible assumption) | (with_reducible refine below_drewN ?_ _) | (with_reducible refine Below.alloc ?_ ?_ _) | (with_reducible refine Below.drew ?_) | (with_reducible refine Below.setCell ?_ ?_ _) | go_size))
              case rest =>
                obtain ⟨rfl, hb⟩ := hcut
                (try clear hc0 hf0 hl0); replace hI := hI.step (by (repeat' (first | (with_reducible exact Below.refl _ _) | (with_reducible assumption) | (with_reducible refine below_drewN ?_ _) | (with_reducible refine Below.alloc ?_ ?_ _) | (with_reducible refine Below.drew ?_) | (with_reducible refine Below.setCell ?_ ?_ _) | go_size))) hb; clear hb; have hc0 := fun o => hI.cell w.heap.size o yl; have hf0 := fun o => hI.frozen w.heap.size o yl; have hl0 := hI.lt_ yl
                cases o : v.ok
                all_goals
                  go_wp2_with (go_at_call 10; (with_reducible refine (lives_any _).mono ?_); rintro e w2 ⟨rfl, hb⟩; (try clear hc0 hf0 hl0); replace hI := hI.step (by (repeat' (first | (with_reducible exact Below.refl _ _) | (with_reducible assumption) | (with_reducible refine below_drewN ?_ _) | (with_reducible refine Below.alloc ?_ ?_ _) | (with_reducible refine Below.drew ?_) | (with_reducible refine Below.setCell ?_ ?_ _) | go_size))) hb; clear hb; have hc0 := fun o => hI.cell w.heap.size o yl; have hf0 := fun o => hI.frozen w.heap.size o yl; have hl0 := hI.lt_ yl)
                  go_ret
                  refine ⟨rfl, ?_⟩
                  (have hS := hI.bw; have hV := hS.size; (repeat' (first | (with_reducible exact Below.refl _ _) | (with_reducible assumption) | (with_reducible refine below_drewN ?_ _) | (with_reducible refine Below.alloc ?_ ?_ _) | (with_reducible refine Below.drew ?_) | (with_reducible refine Below.setCell ?_ ?_ _) | go_size)))
            · have o : v.ok = false := by rw [← HV.out, apply_none HS.out (.inr (.inl (by simpa using d3)))]; rfl
              go_wp2_with (first | (go_at_call 12; (with_reducible refine (rstroke_any R.isM (hI.at0 (by (repeat' (first | (with_reducible exact Below.refl _ _) | (with_reducible assumption) | (with_reducible refine below_drewN ?_ _) | (with_reducible refine Below.alloc ?_ ?_ _) | (with_reducible refine Below.drew ?_) | (with_reducible refine Below.setCell ?_ ?_ _) | go_size)))) _).mono ?_); rw [HS.out]; rintro e w3 ⟨rfl, hb⟩; (try clear hc0 hf0 hl0); replace hI := hI.step (by (repeat' (first | (with_reducible exact Below.refl _ _) | (with_reducible assumption) | (with_reducible refine below_drewN ?_ _) | (with_reducible refine Below.alloc ?_ ?_ _) | (with_reducible refine Below.drew ?_) | (with_reducible refine Below.setCell ?_ ?_ _) | go_size))) hb; clear hb; have hc0 := fun o => hI.cell w.heap.size o yl; have hf0 := fun o => hI.frozen w.heap.size o yl; have hl0 := hI.lt_ yl) | (go_at_call 10; (with_reducible refine (lives_any _).mono ?_); rintro e w2 ⟨rfl, hb⟩; (try clear hc0 hf0 hl0); replace hI := hI.step (by (repeat' (first | (with_reducible exact Below.refl _ _) | (with_reducible assumption) | (with_reducible refine below_drewN ?_ _) | (with_reducible refine Below.alloc ?_ ?_ _) | (with_reducible refine Below.drew ?_) | (with_reducible refine Below.setCell ?_ ?_ _) | go_size))) hb; clear hb; have hc0 := fun o => hI.cell w.heap.size o yl; have hf0 := fun o => hI.frozen w.heap.size o yl; have hl0 := hI.lt_ yl))
              go_ret
              refine ⟨rfl, ?_⟩
              (have hS := hI.bw; have hV := hS.size; (repeat' (first | (with_reducible exact Below.refl _ _) | (with_reducible assumption) | (with_reducible refine below_drewN ?_ _) | (with_reducible refine Below.alloc ?_ ?_ _) | (with_reducible refine Below.drew ?_) | (with_reducible refine Below.setCell ?_ ?_ _) | go_size)))

/-! ### the row's step -/
set_option maxRecDepth 100000 in
theorem lifted (os : Os) (started : os.Started) (H : Type) (enc : TypeId × Value → H) :
    ReturnsInHanded {} Try.checked os 6 .any (Rows.fuseForgedSpec.pre6 enc Try.prog Try.f6 Rows.fuseForgedRow.domain false) (Rows.fuseForgedSpec.post enc Try.prog Try.f6 false true false false) := by
  refine returnsInHanded_of_change (C := Try.checked) own started (by kernel_rfl) Try.func6
    (ChangeSpec.witness6 (enc := enc) (C := Try.checked) false ⟨#[], #[.agg #[.string ⟨#[]⟩, .int .i64 0, .int .i64 0, .int .i64 0, .slice none 0 0, .slice none 0 0], .int .i64 0, .int .i64 0, .int .i64 0, .slice none 0 0], []⟩ 8 (by kernel_rfl) (by kernel_rfl) (by kernel_rfl) (by kernel_rfl)) ?_
  intro W base args ds gs before hval0 hW hcnd _
  have hval : ∀ (j : Nat) t v, Try.f6.params[j]? = some t → args[j]? = some v → Value.okWide Try.prog W .any base t v := hval0
  have hW' := hW
  obtain ⟨p, q, hA0, hV, rfl, hfz, hnd⟩ := hW
  have hA : DataW.TrodAll enc Try.prog W 0 (fun _ => true) true Try.f6.params.toList args.toList ds p := hA0
  rw [Try.params6] at hA hval
  obtain ⟨v0, vs0, d0, ds0, p0, q0, hargs, rfl, rfl, h0, r0⟩ := trodAll_cons hA
  obtain ⟨v1, vs1, d1, ds1, p1, q1, rfl, rfl, rfl, h1, r1⟩ := trodAll_cons r0
  obtain ⟨v2, vs2, d2, ds2, p2, q2, rfl, rfl, rfl, h2, r2⟩ := trodAll_cons r1
  obtain ⟨v3, vs3, d3, ds3, p3, q3, rfl, rfl, rfl, h3, r3⟩ := trodAll_cons r2
  obtain ⟨v4, vs4, d4, ds4, p4, q4, rfl, rfl, rfl, h4, r4⟩ := trodAll_cons r3
  obtain ⟨rfl, rfl, rfl⟩ := trodAll_nil r4
  obtain rfl : args = #[v0, v1, v2, v3, v4] := by cases args; simp_all
  obtain ⟨rfl, rfl⟩ := trodVars_none hV
  have k0 := h0
  have lt0 : ∀ x ∈ p0, x.block < W.heap.size := by obtain ⟨m, hm⟩ := k0; exact DataW.trod_lt m _ _ _ hm
  obtain ⟨s, x0, x1, x2, LA, ln, lc, CA, cn, cc, L, C, rfl, R⟩ := open_method (hval 0 25 v0 rfl rfl) h0
  obtain ⟨a1, rfl, rfl, rfl, w1⟩ := open_int Try.underlying3 (hval 1 3 v1 rfl rfl) h1
  obtain ⟨a2, rfl, rfl, rfl, w2⟩ := open_int Try.underlying3 (hval 2 3 v2 rfl rfl) h2
  obtain ⟨a3, rfl, rfl, rfl, w3⟩ := open_int Try.underlying3 (hval 3 3 v3 rfl rfl) h3
  have k4 := h4
  have lt4 : ∀ x ∈ p4, x.block < W.heap.size := by obtain ⟨m, hm⟩ := k4; exact DataW.trod_lt m _ _ _ hm
  obtain ⟨A4, n4, c4, F4, rfl, R4⟩ := open_words (hval 4 36 v4 rfl rfl) h4
  clear hA0 hval0
  refine (walk W _ _ _ _ _ _ _ _ _ _ _ _ R _ _ _ _ _ _ _ R4).mono fun e W' ⟨he, bel⟩ => ?_
  subst he
  exact ⟨_, rfl, _, _, _, [], _, [], hW', trodAll_mk1 (shut_bool Try.underlying4 _), (trodAll_cons_mk (Below.trod laidOut (by kernel_rfl) (of_decide_eq_true (by kernel_rfl)) k0 bel lt0) (trodAll_cons_mk (shut_int Try.underlying3 w1) (trodAll_cons_mk (shut_int Try.underlying3 w2) (trodAll_cons_mk (shut_int Try.underlying3 w3) (trodAll_cons_mk (Below.trod laidOut (by kernel_rfl) (of_decide_eq_true (by kernel_rfl)) k4 bel lt4) trodAll_mk0))))), rfl, bel.frame _, fun h => by cases h⟩

theorem over : Rows.fuseForgedRow.holds Try.pinned (OpenSpec.ofChange Rows.fuseForgedSpec) :=
  OpenClaim.holds_of_wide 6 Try.f6 rfl rfl rfl rfl rfl rfl rfl ⟨rfl, rfl, rfl, rfl, rfl⟩ rfl rfl rfl rfl rfl (by kernel_rfl) Try.func6 (by kernel_rfl)
    (of_decide_eq_true (by kernel_rfl)) (by unfold Func.isWrapper; first | (rw [if_pos (by decide +kernel)]; kernel_rfl) | (rw [if_neg (by decide +kernel)]; exact ⟨rfl, rfl⟩))
    (fun os started H enc _ => lifted os started H enc)

theorem proved : Rows.FuseForgedSaid := over
end Go.Proofs.Ytjiidjcehhdnbaa.fuseForged

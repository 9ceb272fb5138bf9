/- The law FuseApplies of chapter 18 holds for every input: it returns true, and its arguments stay. No conditions. -/
import Derived.Test.YtjiidjcehhdnbaaRows
import Derived.Test.YtjiidjcehhdnbaaFW7
import Derived.Test.YtjiidjcehhdnbaaFW8
import Derived.Test.YtjiidjcehhdnbaaFW11
import Derived.Test.YtjiidjcehhdnbaaFW13
import Derived.Test.YtjiidjcehhdnbaaFW14
import Derived.Test.YtjiidjcehhdnbaaFW15
import Derived.Test.YtjiidjcehhdnbaaFW16
import Derived.Test.YtjiidjcehhdnbaaFW24
import Derived.WalkKit
import Derived.Deep.CutRange
import Derived.Deep.DeepCutAuto
import Derived.Deep.RegionHeld3
import Derived.ProofKit
import Derived.OpenShut
import Derived.ShutString
import Derived.ChangeOld
import Derived.Below
namespace Go.Proofs.Ytjiidjcehhdnbaa.fuseApplies
open Go.ChangeShapes Go.WideShapes Go.ChangeAt Go.RowKit
set_option linter.unusedVariables false
set_option linter.unusedSimpArgs false

theorem own : ownKnob Try.prog.godebug = none := by kernel_rfl
theorem laidOut : laidOutB Try.prog = true := by kernel_rfl

set_option maxRecDepth 100000 in
set_option maxHeartbeats 40000000 in
theorem walk (w : World) (s : ByteArray) (x0 x1 x2 : Int) (LA : Option Addr) (ln lc : Nat) (CA : Option Addr) (cn cc : Nat) (L : Nat → LitR) (C : Nat → InsR) (R : RawM w LA ln lc CA cn cc L C) (a1 : Int) (A2 : Option Addr) (n2 c2 : Nat) (F2 : Nat → Int) (R2 : RawW w A2 n2 c2 F2) (A3 : Option Addr) (n3 c3 : Nat) (F3 : Nat → Int) (R3 : RawW w A3 n3 c3 F3) :
    Calls Try.prog 5 #[.agg #[.string s, .int .i64 x0, .int .i64 x1, .int .i64 x2, .slice LA ln lc, .slice CA cn cc], .int .i64 a1, .slice A2 n2 c2, .slice A3 n3 c3] w fun e w' => e = .returned (.bool true) ∧ Below w.heap.size w w' := by
  go_enter Try.func5, Try.ntmps5
  go_upto_region 2 with (go_at_call 9; (with_reducible refine (few_any R (by (repeat' (first | (with_reducible exact Below.refl _ _) | (with_reducible assumption) | (with_reducible refine below_drewN ?_ _) | (with_reducible refine Below.alloc ?_ ?_ _) | (with_reducible refine Below.drew ?_) | (with_reducible refine Below.setCell ?_ ?_ _) | go_size)))).mono ?_); rintro e w1 ⟨ok, rfl, h1, h2, hb⟩; have hS := thru hb (show Below w.heap.size w _ by (repeat' (first | (with_reducible exact Below.refl _ _) | (with_reducible assumption) | (with_reducible refine below_drewN ?_ _) | (with_reducible refine Below.alloc ?_ ?_ _) | (with_reducible refine Below.drew ?_) | (with_reducible refine Below.setCell ?_ ?_ _) | go_size))); obtain ⟨hc, hf⟩ := bcell hb; obtain ⟨hl, hl'⟩ := bsize hb; (try simp only [World.size_alloc, World.size_setCell, World.size_drew, size_drewN] at hc hf hl hl'))
  have hw1 : w.heap.size < w1.heap.size := by first | assumption | omega | exact hl _ (by omega)
  obtain ⟨Y, hY⟩ : ∃ Y, (World.setCell (World.setCell (World.setCell (World.setCell (World.setCell (World.setCell w1 ⟨w.heap.size, 0, none⟩ (.string s)) ⟨w.heap.size, 1, none⟩ (.int .i64 x0)) ⟨w.heap.size, 2, none⟩ (.int .i64 x1)) ⟨w.heap.size, 3, none⟩ (.int .i64 x2)) ⟨w.heap.size, 4, none⟩ (.slice LA (fewN ln 30) lc)) ⟨w.heap.size, 5, none⟩ (.slice CA (fewN cn 100) cc)) = Y := ⟨_, rfl⟩
  rw [hY]
  have y0 : Y.cell? ⟨w.heap.size, 0, none⟩ = some (.string s) := by subst hY; simp [go_sem, *]
  have y1 : Y.cell? ⟨w.heap.size, 1, none⟩ = some (.int .i64 x0) := by subst hY; simp [go_sem, *]
  have y2 : Y.cell? ⟨w.heap.size, 2, none⟩ = some (.int .i64 x1) := by subst hY; simp [go_sem, *]
  have y3 : Y.cell? ⟨w.heap.size, 3, none⟩ = some (.int .i64 x2) := by subst hY; simp [go_sem, *]
  have y4 : Y.cell? ⟨w.heap.size, 4, none⟩ = some (.slice LA (fewN ln 30) lc) := by subst hY; simp [go_sem, *]
  have y5 : Y.cell? ⟨w.heap.size, 5, none⟩ = some (.slice CA (fewN cn 100) cc) := by subst hY; simp [go_sem, *]
  have yl : w.heap.size < Y.heap.size := by subst hY; simp only [World.size_alloc, World.size_setCell, World.size_drew, size_drewN]; exact hw1
  have hYb : Below w.heap.size w Y := by subst hY; (repeat' (first | (with_reducible exact Below.refl _ _) | (with_reducible assumption) | (with_reducible refine below_drewN ?_ _) | (with_reducible refine Below.alloc ?_ ?_ _) | (with_reducible refine Below.drew ?_) | (with_reducible refine Below.setCell ?_ ?_ _) | go_size))
  have hI : Inv w w Y Y := Inv.start (Below.refl _ _) hYb
  clear hY hc hf hl hl' hb hS hYb hw1
  cases ok
  · go_wp2_with (go_at_call 10; (with_reducible refine (lives_any _).mono ?_); rintro e w2 ⟨rfl, hb⟩; (try clear hc0 hf0 hl0); replace hI := hI.step (by (repeat' (first | (with_reducible exact Below.refl _ _) | (with_reducible assumption) | (with_reducible refine below_drewN ?_ _) | (with_reducible refine Below.alloc ?_ ?_ _) | (with_reducible refine Below.drew ?_) | (with_reducible refine Below.setCell ?_ ?_ _) | go_size))) hb; clear hb; have hc0 := fun o => hI.cell w.heap.size o yl; have hf0 := fun o => hI.frozen w.heap.size o yl; have hl0 := hI.lt_ yl)
    go_ret
    refine ⟨rfl, ?_⟩
    (have hS := hI.bw; have hV := hS.size; (repeat' (first | (with_reducible exact Below.refl _ _) | (with_reducible assumption) | (with_reducible refine below_drewN ?_ _) | (with_reducible refine Below.alloc ?_ ?_ _) | (with_reducible refine Below.drew ?_) | (with_reducible refine Below.setCell ?_ ?_ _) | go_size)))
  · have hG := h1 rfl
    clear h1 h2
    go_wp2_with (first | (go_at_call 13; (with_reducible refine (cut_any R2 _).mono ?_); rintro e w3 ⟨rfl, hw3⟩; replace hw3 := hw3.symm; subst hw3) | (go_at_call 13; (with_reducible refine (cut_any R3 _).mono ?_); rintro e w3 ⟨rfl, hw3⟩; replace hw3 := hw3.symm; subst hw3) | (go_at_call 11; (with_reducible refine (plan_any R.isM (hI.at0 (by (repeat' (first | (with_reducible exact Below.refl _ _) | (with_reducible assumption) | (with_reducible refine below_drewN ?_ _) | (with_reducible refine Below.alloc ?_ ?_ _) | (with_reducible refine Below.drew ?_) | (with_reducible refine Below.setCell ?_ ?_ _) | go_size))))).mono ?_); rintro e w2 ⟨v, rfl, hv, hb⟩; (try clear hc0 hf0 hl0); replace hI := hI.step (by (repeat' (first | (with_reducible exact Below.refl _ _) | (with_reducible assumption) | (with_reducible refine below_drewN ?_ _) | (with_reducible refine Below.alloc ?_ ?_ _) | (with_reducible refine Below.drew ?_) | (with_reducible refine Below.setCell ?_ ?_ _) | go_size))) hb; clear hb; have hc0 := fun o => hI.cell w.heap.size o yl; have hf0 := fun o => hI.frozen w.heap.size o yl; have hl0 := hI.lt_ yl; obtain ⟨A, cap, rfl, hrow, hcap, hmax, hbase⟩ := plan_row hv; clear hv))
    have z0 := (hc0 0).trans y0
    have z1 := (hc0 1).trans y1
    have z2 := (hc0 2).trans y2
    have z3 := (hc0 3).trans y3
    have z4 := (hc0 4).trans y4
    have z5 := (hc0 5).trans y5
    have zl := hl0
    have hB2 := hI.bw
    clear hc0 hf0 hl0 hI y0 y1 y2 y3 y4 y5 yl
    go_loopw [11] (fun i wr => ∃ k : Nat, k ≤ fewN cn 100 ∧ i = .int .i64 k ∧ Inv w w w2 wr) (fun i _ => fewN cn 100 - (intOf i).toNat)
    case atStart => exact ⟨0, Nat.zero_le _, rfl, Inv.start (Below.refl _ _) hB2⟩
    case round =>
      obtain ⟨k, hk, rfl, hI⟩ := hrel
      by_cases hlt : k < fewN cn 100
      · have hlt' : decide (k < fewN cn 100) = true := decide_eq_true hlt
        have hlt'' : decide (fewN cn 100 ≤ k) = false := decide_eq_false (by omega)
        obtain ⟨g, off, rfl, hgl, hcell⟩ := hrow (by omega)
        have e0 : w2.cell? ⟨g, off + k * 3, none⟩ = some (strokeCell (strokeV (fewN ln 30) L (fewN cn 100) C (k : Int)) 0) := hcell k hlt 0 (by omega)
        have e1 : w2.cell? ⟨g, off + k * 3 + 1, none⟩ = some (strokeCell (strokeV (fewN ln 30) L (fewN cn 100) C (k : Int)) 1) := hcell k hlt 1 (by omega)
        have e2 : w2.cell? ⟨g, off + k * 3 + 2, none⟩ = some (strokeCell (strokeV (fewN ln 30) L (fewN cn 100) C (k : Int)) 2) := hcell k hlt 2 (by omega)
        clear hcell hrow hbase
        rcases stroke_shape (ln := fewN ln 30) (L := L) (cn := fewN cn 100) (C := C) (k : Int) with hs | ⟨sk, sn, hs, h3, h4, h5, h6⟩
        · rw [hs] at e0 e1 e2
          have HS := Lib.hid hs
          clear hs
          obtain ⟨v, hv⟩ : ∃ t, applyV (fewN ln 30) L (fewN cn 100) C a1 (fewN n2 24) F2 (fewN n3 24) F3 0 0 0 = t := ⟨_, rfl⟩
          have hvl : v.push.length ≤ 1 := by rw [← hv]; exact apply_push _ _ _
          have HV := Lib.hid hv
          clear hv
          have sc0 : w2.cell? ⟨g, off + k * 3, none⟩ = some (.int .i64 0) := e0
          have sc1 : w2.cell? ⟨g, off + k * 3 + 1, none⟩ = some (.int .i64 0) := e1
          have sc2 : w2.cell? ⟨g, off + k * 3 + 2, none⟩ = some (.int .i64 0) := e2
          clear e0 e1 e2
          have hc0 := fun o => hI.cell w.heap.size o zl
          have hl0 := hI.lt_ zl
          have hcg := fun o => hI.cell g o hgl
          have hlg := hI.lt_ hgl
          go_upto_region 13 with (go_at_call 12; (with_reducible refine (rstroke_any R.isM (hI.at0 (by (repeat' (first | (with_reducible exact Below.refl _ _) | (with_reducible assumption) | (with_reducible refine below_drewN ?_ _) | (with_reducible refine Below.alloc ?_ ?_ _) | (with_reducible refine Below.drew ?_) | (with_reducible refine Below.setCell ?_ ?_ _) | go_size)))) _).mono ?_); rw [HS.out]; rintro e w3 ⟨rfl, hb⟩; clear hc0 hl0 hcg hlg; replace hI := hI.step (by (repeat' (first | (with_reducible exact Below.refl _ _) | (with_reducible assumption) | (with_reducible refine below_drewN ?_ _) | (with_reducible refine Below.alloc ?_ ?_ _) | (with_reducible refine Below.drew ?_) | (with_reducible refine Below.setCell ?_ ?_ _) | go_size))) hb; clear hb; have hc0 := fun o => hI.cell w.heap.size o zl; have hl0 := hI.lt_ zl; have hcg := fun o => hI.cell g o hgl; have hlg := hI.lt_ hgl)
          have mx0 := (hc0 0).trans z0
          have mx1 := (hc0 1).trans z1
          have mx2 := (hc0 2).trans z2
          have mx3 := (hc0 3).trans z3
          have mx4 := (hc0 4).trans z4
          have mx5 := (hc0 5).trans z5
          have q0 := (hcg (off + k * 3)).trans sc0
          have q1 := (hcg (off + k * 3 + 1)).trans sc1
          have q2 := (hcg (off + k * 3 + 2)).trans sc2
          go_cut [14, 15] from 33 to 121 (fun a is wz => is = .bool v.ok ∧ ∃ ba PA pc, a = .pointer (some ⟨ba, 0, none⟩) ∧ Below w3.heap.size w3 wz ∧ w3.heap.size ≤ ba ∧ wz.cell? ⟨ba, 0, none⟩ = some (.int .i64 v.dst) ∧ wz.cell? ⟨ba, 1, none⟩ = some (.slice PA v.push.length pc) ∧ wz.cell? ⟨ba, 2, none⟩ = some (.int .i64 v.temp) ∧ wz.cell? ⟨ba, 3, none⟩ = some (.int .i64 v.val) ∧ Row wz PA v.push.length 1 (fun i _ => .int .i64 (v.push.getD i 0)))
          case first =>
            go_region_held3 (fun w' => w'.cell? ⟨w.heap.size, 0, none⟩ = some (.string s) ∧ w'.cell? ⟨w.heap.size, 1, none⟩ = some (.int .i64 x0) ∧ w'.cell? ⟨w.heap.size, 2, none⟩ = some (.int .i64 x1) ∧ w'.cell? ⟨w.heap.size, 3, none⟩ = some (.int .i64 x2) ∧ w'.cell? ⟨w.heap.size, 4, none⟩ = some (.slice LA (fewN ln 30) lc) ∧ w'.cell? ⟨w.heap.size, 5, none⟩ = some (.slice CA (fewN cn 100) cc) ∧ w'.cell? ⟨g, off + k * 3, none⟩ = some (.int .i64 0) ∧ w'.cell? ⟨g, off + k * 3 + 1, none⟩ = some (.int .i64 0) ∧ w'.cell? ⟨g, off + k * 3 + 2, none⟩ = some (.int .i64 0)) (first | assumption | (simp [go_sem]; done) | (simp [go_sem, *]; done)) (first | (go_at_call 16; (with_reducible refine (app_any (self := a1) (TF := F2) (FF := F3) R.isM hG R2.words R3.words (hI.at0 (by (repeat' (first | (with_reducible exact Below.refl _ _) | (with_reducible assumption) | (with_reducible refine below_drewN ?_ _) | (with_reducible refine Below.alloc ?_ ?_ _) | (with_reducible refine Below.drew ?_) | (with_reducible refine Below.setCell ?_ ?_ _) | go_size)))) 0 0 0).mono ?_); rw [HV.out]; rintro e w4 ⟨PV, rfl, hp, hb'⟩; obtain ⟨PA, pc, rfl, hrowp, _, _, hpb⟩ := own_row1b hp; clear hp; have mx0' : w4.cell? ⟨w.heap.size, 0, none⟩ = some (.string s) := below_cell hb' (by (first | assumption | (simp [go_sem]; done) | (simp [go_sem, *]; done))); have mx1' : w4.cell? ⟨w.heap.size, 1, none⟩ = some (.int .i64 x0) := below_cell hb' (by (first | assumption | (simp [go_sem]; done) | (simp [go_sem, *]; done))); have mx2' : w4.cell? ⟨w.heap.size, 2, none⟩ = some (.int .i64 x1) := below_cell hb' (by (first | assumption | (simp [go_sem]; done) | (simp [go_sem, *]; done))); have mx3' : w4.cell? ⟨w.heap.size, 3, none⟩ = some (.int .i64 x2) := below_cell hb' (by (first | assumption | (simp [go_sem]; done) | (simp [go_sem, *]; done))); have mx4' : w4.cell? ⟨w.heap.size, 4, none⟩ = some (.slice LA (fewN ln 30) lc) := below_cell hb' (by (first | assumption | (simp [go_sem]; done) | (simp [go_sem, *]; done))); have mx5' : w4.cell? ⟨w.heap.size, 5, none⟩ = some (.slice CA (fewN cn 100) cc) := below_cell hb' (by (first | assumption | (simp [go_sem]; done) | (simp [go_sem, *]; done))); have q0' : w4.cell? ⟨g, off + k * 3, none⟩ = some (.int .i64 0) := below_cell hb' (by (first | assumption | (simp [go_sem]; done) | (simp [go_sem, *]; done))); have q1' : w4.cell? ⟨g, off + k * 3 + 1, none⟩ = some (.int .i64 0) := below_cell hb' (by (first | assumption | (simp [go_sem]; done) | (simp [go_sem, *]; done))); have q2' : w4.cell? ⟨g, off + k * 3 + 2, none⟩ = some (.int .i64 0) := below_cell hb' (by (first | assumption | (simp [go_sem]; done) | (simp [go_sem, *]; done))); obtain ⟨hcb, hfb⟩ := bcell hb'; (try have ec0 := fun o => hcb (w3.heap.size) o (by simp only [World.size_alloc, World.size_setCell, World.size_drew, size_drewN]; omega)); (try have ef0 := fun o => hfb (w3.heap.size) o (by simp only [World.size_alloc, World.size_setCell, World.size_drew, size_drewN]; omega)); (try have el0 : w3.heap.size < w4.heap.size := Nat.lt_of_lt_of_le (by simp only [World.size_alloc, World.size_setCell, World.size_drew, size_drewN]; omega) hb'.size); have lt1' := cell_lt mx0'; (try dsimp only at lt1'); have lt2' := cell_lt q0'; (try dsimp only at lt2'); clear hcb hfb))
            all_goals
              go_wp2_with fail
              go_meet
              have hT := thru hb' (show Below w3.heap.size w3 _ by (repeat' (first | (with_reducible exact Below.refl _ _) | (with_reducible assumption) | (with_reducible refine below_drewN ?_ _) | (with_reducible refine Below.alloc ?_ ?_ _) | (with_reducible refine Below.drew ?_) | (with_reducible refine Below.setCell ?_ ?_ _) | go_size)))
              have hTs := hT.size
              (try clear z0); (try clear z1); (try clear z2); (try clear z3); (try clear z4); (try clear z5); (try clear mx0); (try clear mx1); (try clear mx2); (try clear mx3); (try clear mx4); (try clear mx5); (try clear mx0'); (try clear mx1'); (try clear mx2'); (try clear mx3'); (try clear mx4'); (try clear mx5'); (try clear q0); (try clear q1); (try clear q2); (try clear q0'); (try clear q1'); (try clear q2'); (try clear lt1'); (try clear lt2'); (try clear hc0); (try clear hl0); (try clear hcg); (try clear hlg); (try clear sc0); (try clear sc1); (try clear sc2); (try clear HV); (try clear HS); (try clear hvl); (try clear hG); (try clear d0); (try clear d5); (try clear h3); (try clear h4); (try clear h5); (try clear h6); (try clear hlt'); (try clear hlt''); (try clear hI); (try clear hB2)
              refine ⟨rfl, _, PA, pc, rfl, ?_, ?_, ?_, ?_, ?_, ?_, ?_⟩
              · (repeat' (first | (with_reducible exact Below.refl _ _) | (with_reducible assumption) | (with_reducible refine below_drewN ?_ _) | (with_reducible refine Below.alloc ?_ ?_ _) | (with_reducible refine Below.drew ?_) | (with_reducible refine Below.setCell ?_ ?_ _) | go_size))
              · first | exact Nat.le_refl _ | exact hTs
              · (first | assumption | (simp [go_sem]; done) | (simp [go_sem, *]; done))
              · (first | assumption | (simp [go_sem]; done) | (simp [go_sem, *]; done))
              · (first | assumption | (simp [go_sem]; done) | (simp [go_sem, *]; done))
              · (first | assumption | (simp [go_sem]; done) | (simp [go_sem, *]; done))
              · first | ((with_reducible refine Row.below hrowp ?_); (first | done | (repeat' (first | (with_reducible exact Below.refl _ _) | (with_reducible assumption) | (with_reducible refine below_drewN ?_ _) | (with_reducible refine Below.alloc ?_ ?_ _) | (with_reducible refine Below.drew ?_) | (with_reducible refine Below.setCell ?_ ?_ _) | go_size))); done) | exact (((hrowp.setCell _ (fun b' o' e => by have := hpb b' o' e; simp only [World.size_alloc, World.size_setCell, World.size_drew, size_drewN] at this; omega)).setCell _ (fun b' o' e => by have := hpb b' o' e; simp only [World.size_alloc, World.size_setCell, World.size_drew, size_drewN] at this; omega)).setCell _ (fun b' o' e => by have := hpb b' o' e; simp only [World.size_alloc, World.size_setCell, World.size_drew, size_drewN] at this; omega)).setCell _ (fun b' o' e => by have := hpb b' o' e; simp only [World.size_alloc, World.size_setCell, World.size_drew, size_drewN] at this; omega)
          case rest =>
            obtain ⟨rfl, ba, PA, pc, rfl, hb, hba, p0, p1, p2, p3, hrowp⟩ := hcut
            clear hc0 hl0 hcg hlg mx0 mx1 mx2 mx3 mx4 mx5 q0 q1 q2
            replace hI := hI.go hb
            clear hb
            have hc0 := fun o => hI.cell w.heap.size o zl
            have hl0 := hI.lt_ zl
            have hcg := fun o => hI.cell g o hgl
            have hlg := hI.lt_ hgl
            have o : v.ok = false := by rw [← HV.out, apply_none (hs := (rfl : strokeV (fewN ln 30) L (fewN cn 100) C 0 = ((strokeV (fewN ln 30) L (fewN cn 100) C 0).1, (strokeV (fewN ln 30) L (fewN cn 100) C 0).2.1, (strokeV (fewN ln 30) L (fewN cn 100) C 0).2.2))) (.inl rfl)]; rfl
            generalize v.ok = vo at o ⊢
            subst o
            go_wp2
            go_roundw
            case rel => exact ⟨k + 1, by omega, by go_num, hI⟩
            case measure => simp [intOf]; omega
        · rw [hs] at e0 e1 e2
          have d0 : (sk == 0) = false := by simp; omega
          cases d5 : (sk == 5)
          · have HS := Lib.hid hs
            clear hs
            obtain ⟨v, hv⟩ : ∃ t, applyV (fewN ln 30) L (fewN cn 100) C a1 (fewN n2 24) F2 (fewN n3 24) F3 sk k sn = t := ⟨_, rfl⟩
            have hvl : v.push.length ≤ 1 := by rw [← hv]; exact apply_push _ _ _
            have HV := Lib.hid hv
            clear hv
            have sc0 : w2.cell? ⟨g, off + k * 3, none⟩ = some (.int .i64 sk) := e0
            have sc1 : w2.cell? ⟨g, off + k * 3 + 1, none⟩ = some (.int .i64 k) := e1
            have sc2 : w2.cell? ⟨g, off + k * 3 + 2, none⟩ = some (.int .i64 sn) := e2
            clear e0 e1 e2
            have hc0 := fun o => hI.cell w.heap.size o zl
            have hl0 := hI.lt_ zl
            have hcg := fun o => hI.cell g o hgl
            have hlg := hI.lt_ hgl
            go_upto_region 13 with (go_at_call 12; (with_reducible refine (rstroke_any R.isM (hI.at0 (by (repeat' (first | (with_reducible exact Below.refl _ _) | (with_reducible assumption) | (with_reducible refine below_drewN ?_ _) | (with_reducible refine Below.alloc ?_ ?_ _) | (with_reducible refine Below.drew ?_) | (with_reducible refine Below.setCell ?_ ?_ _) | go_size)))) _).mono ?_); rw [HS.out]; rintro e w3 ⟨rfl, hb⟩; clear hc0 hl0 hcg hlg; replace hI := hI.step (by (repeat' (first | (with_reducible exact Below.refl _ _) | (with_reducible assumption) | (with_reducible refine below_drewN ?_ _) | (with_reducible refine Below.alloc ?_ ?_ _) | (with_reducible refine Below.drew ?_) | (with_reducible refine Below.setCell ?_ ?_ _) | go_size))) hb; clear hb; have hc0 := fun o => hI.cell w.heap.size o zl; have hl0 := hI.lt_ zl; have hcg := fun o => hI.cell g o hgl; have hlg := hI.lt_ hgl)
            have mx0 := (hc0 0).trans z0
            have mx1 := (hc0 1).trans z1
            have mx2 := (hc0 2).trans z2
            have mx3 := (hc0 3).trans z3
            have mx4 := (hc0 4).trans z4
            have mx5 := (hc0 5).trans z5
            have q0 := (hcg (off + k * 3)).trans sc0
            have q1 := (hcg (off + k * 3 + 1)).trans sc1
            have q2 := (hcg (off + k * 3 + 2)).trans sc2
            go_cut [14, 15] from 33 to 121 (fun a is wz => is = .bool v.ok ∧ ∃ ba PA pc, a = .pointer (some ⟨ba, 0, none⟩) ∧ Below w3.heap.size w3 wz ∧ w3.heap.size ≤ ba ∧ wz.cell? ⟨ba, 0, none⟩ = some (.int .i64 v.dst) ∧ wz.cell? ⟨ba, 1, none⟩ = some (.slice PA v.push.length pc) ∧ wz.cell? ⟨ba, 2, none⟩ = some (.int .i64 v.temp) ∧ wz.cell? ⟨ba, 3, none⟩ = some (.int .i64 v.val) ∧ Row wz PA v.push.length 1 (fun i _ => .int .i64 (v.push.getD i 0)))
            case first =>
              go_region_held3 (fun w' => w'.cell? ⟨w.heap.size, 0, none⟩ = some (.string s) ∧ w'.cell? ⟨w.heap.size, 1, none⟩ = some (.int .i64 x0) ∧ w'.cell? ⟨w.heap.size, 2, none⟩ = some (.int .i64 x1) ∧ w'.cell? ⟨w.heap.size, 3, none⟩ = some (.int .i64 x2) ∧ w'.cell? ⟨w.heap.size, 4, none⟩ = some (.slice LA (fewN ln 30) lc) ∧ w'.cell? ⟨w.heap.size, 5, none⟩ = some (.slice CA (fewN cn 100) cc) ∧ w'.cell? ⟨g, off + k * 3, none⟩ = some (.int .i64 sk) ∧ w'.cell? ⟨g, off + k * 3 + 1, none⟩ = some (.int .i64 k) ∧ w'.cell? ⟨g, off + k * 3 + 2, none⟩ = some (.int .i64 sn)) (first | assumption | (simp [go_sem]; done) | (simp [go_sem, *]; done)) (first | (go_at_call 16; (with_reducible refine (app_any (self := a1) (TF := F2) (FF := F3) R.isM hG R2.words R3.words (hI.at0 (by (repeat' (first | (with_reducible exact Below.refl _ _) | (with_reducible assumption) | (with_reducible refine below_drewN ?_ _) | (with_reducible refine Below.alloc ?_ ?_ _) | (with_reducible refine Below.drew ?_) | (with_reducible refine Below.setCell ?_ ?_ _) | go_size)))) sk k sn).mono ?_); rw [HV.out]; rintro e w4 ⟨PV, rfl, hp, hb'⟩; obtain ⟨PA, pc, rfl, hrowp, _, _, hpb⟩ := own_row1b hp; clear hp; have mx0' : w4.cell? ⟨w.heap.size, 0, none⟩ = some (.string s) := below_cell hb' (by (first | assumption | (simp [go_sem]; done) | (simp [go_sem, *]; done))); have mx1' : w4.cell? ⟨w.heap.size, 1, none⟩ = some (.int .i64 x0) := below_cell hb' (by (first | assumption | (simp [go_sem]; done) | (simp [go_sem, *]; done))); have mx2' : w4.cell? ⟨w.heap.size, 2, none⟩ = some (.int .i64 x1) := below_cell hb' (by (first | assumption | (simp [go_sem]; done) | (simp [go_sem, *]; done))); have mx3' : w4.cell? ⟨w.heap.size, 3, none⟩ = some (.int .i64 x2) := below_cell hb' (by (first | assumption | (simp [go_sem]; done) | (simp [go_sem, *]; done))); have mx4' : w4.cell? ⟨w.heap.size, 4, none⟩ = some (.slice LA (fewN ln 30) lc) := below_cell hb' (by (first | assumption | (simp [go_sem]; done) | (simp [go_sem, *]; done))); have mx5' : w4.cell? ⟨w.heap.size, 5, none⟩ = some (.slice CA (fewN cn 100) cc) := below_cell hb' (by (first | assumption | (simp [go_sem]; done) | (simp [go_sem, *]; done))); have q0' : w4.cell? ⟨g, off + k * 3, none⟩ = some (.int .i64 sk) := below_cell hb' (by (first | assumption | (simp [go_sem]; done) | (simp [go_sem, *]; done))); have q1' : w4.cell? ⟨g, off + k * 3 + 1, none⟩ = some (.int .i64 k) := below_cell hb' (by (first | assumption | (simp [go_sem]; done) | (simp [go_sem, *]; done))); have q2' : w4.cell? ⟨g, off + k * 3 + 2, none⟩ = some (.int .i64 sn) := below_cell hb' (by (first | assumption | (simp [go_sem]; done) | (simp [go_sem, *]; done))); obtain ⟨hcb, hfb⟩ := bcell hb'; (try have ec0 := fun o => hcb (w3.heap.size) o (by simp only [World.size_alloc, World.size_setCell, World.size_drew, size_drewN]; omega)); (try have ef0 := fun o => hfb (w3.heap.size) o (by simp only [World.size_alloc, World.size_setCell, World.size_drew, size_drewN]; omega)); (try have el0 : w3.heap.size < w4.heap.size := Nat.lt_of_lt_of_le (by simp only [World.size_alloc, World.size_setCell, World.size_drew, size_drewN]; omega) hb'.size); have lt1' := cell_lt mx0'; (try dsimp only at lt1'); have lt2' := cell_lt q0'; (try dsimp only at lt2'); clear hcb hfb))
              all_goals
                go_wp2_with fail
                go_meet
                have hT := thru hb' (show Below w3.heap.size w3 _ by (repeat' (first | (with_reducible exact Below.refl _ _) | (with_reducible assumption) | (with_reducible refine below_drewN ?_ _) | (with_reducible refine Below.alloc ?_ ?_ _) | (with_reducible refine Below.drew ?_) | (with_reducible refine Below.setCell ?_ ?_ _) | go_size)))
                have hTs := hT.size
                (try clear z0); (try clear z1); (try clear z2); (try clear z3); (try clear z4); (try clear z5); (try clear mx0); (try clear mx1); (try clear mx2); (try clear mx3); (try clear mx4); (try clear mx5); (try clear mx0'); (try clear mx1'); (try clear mx2'); (try clear mx3'); (try clear mx4'); (try clear mx5'); (try clear q0); (try clear q1); (try clear q2); (try clear q0'); (try clear q1'); (try clear q2'); (try clear lt1'); (try clear lt2'); (try clear hc0); (try clear hl0); (try clear hcg); (try clear hlg); (try clear sc0); (try clear sc1); (try clear sc2); (try clear HV); (try clear HS); (try clear hvl); (try clear hG); (try clear d0); (try clear d5); (try clear h3); (try clear h4); (try clear h5); (try clear h6); (try clear hlt'); (try clear hlt''); (try clear hI); (try clear hB2)
                refine ⟨rfl, _, PA, pc, rfl, ?_, ?_, ?_, ?_, ?_, ?_, ?_⟩
                · (repeat' (first | (with_reducible exact Below.refl _ _) | (with_reducible assumption) | (with_reducible refine below_drewN ?_ _) | (with_reducible refine Below.alloc ?_ ?_ _) | (with_reducible refine Below.drew ?_) | (with_reducible refine Below.setCell ?_ ?_ _) | go_size))
                · first | exact Nat.le_refl _ | exact hTs
                · (first | assumption | (simp [go_sem]; done) | (simp [go_sem, *]; done))
                · (first | assumption | (simp [go_sem]; done) | (simp [go_sem, *]; done))
                · (first | assumption | (simp [go_sem]; done) | (simp [go_sem, *]; done))
                · (first | assumption | (simp [go_sem]; done) | (simp [go_sem, *]; done))
                · first | ((with_reducible refine Row.below hrowp ?_); (first | done | (repeat' (first | (with_reducible exact Below.refl _ _) | (with_reducible assumption) | (with_reducible refine below_drewN ?_ _) | (with_reducible refine Below.alloc ?_ ?_ _) | (with_reducible refine Below.drew ?_) | (with_reducible refine Below.setCell ?_ ?_ _) | go_size))); done) | exact (((hrowp.setCell _ (fun b' o' e => by have := hpb b' o' e; simp only [World.size_alloc, World.size_setCell, World.size_drew, size_drewN] at this; omega)).setCell _ (fun b' o' e => by have := hpb b' o' e; simp only [World.size_alloc, World.size_setCell, World.size_drew, size_drewN] at this; omega)).setCell _ (fun b' o' e => by have := hpb b' o' e; simp only [World.size_alloc, World.size_setCell, World.size_drew, size_drewN] at this; omega)).setCell _ (fun b' o' e => by have := hpb b' o' e; simp only [World.size_alloc, World.size_setCell, World.size_drew, size_drewN] at this; omega)
            case rest =>
              obtain ⟨rfl, ba, PA, pc, rfl, hb, hba, p0, p1, p2, p3, hrowp⟩ := hcut
              clear hc0 hl0 hcg hlg mx0 mx1 mx2 mx3 mx4 mx5 q0 q1 q2
              replace hI := hI.go hb
              clear hb
              have hc0 := fun o => hI.cell w.heap.size o zl
              have hl0 := hI.lt_ zl
              have hcg := fun o => hI.cell g o hgl
              have hlg := hI.lt_ hgl
              go_upto_region 18 with (go_at_call 17; (with_reducible refine (done_any (self := a1) (TF := F2) (FF := F3) R.isM hG R2.words R3.words (hI.at0 (by (repeat' (first | (with_reducible exact Below.refl _ _) | (with_reducible assumption) | (with_reducible refine below_drewN ?_ _) | (with_reducible refine Below.alloc ?_ ?_ _) | (with_reducible refine Below.drew ?_) | (with_reducible refine Below.setCell ?_ ?_ _) | go_size)))) _ _ _ HS.out (by assumption) (by assumption)).mono ?_); rw [HV.out]; rintro e w5 ⟨DA, dc, rfl, hrowd, hb'⟩; have p0' := below_cell hb' p0; have p1' := below_cell hb' p1; have p2' := below_cell hb' p2; have p3' := below_cell hb' p3; have pl' : ba < w5.heap.size := cell_lt p0'; replace hrowp := hrowp.below hb'; clear p0 p1 p2 p3 hc0 hl0 hcg hlg; replace hI := hI.go hb'; clear hb')
              obtain ⟨X, hX⟩ : ∃ X, X = w5.alloc (.cells #[.int .i64 v.dst, .slice DA v.push.length dc, .int .i64 v.temp, .int .i64 v.val] 48) := ⟨_, rfl⟩
              have hbX : Below w5.heap.size w5 X := by subst hX; (repeat' (first | (with_reducible exact Below.refl _ _) | (with_reducible assumption) | (with_reducible refine below_drewN ?_ _) | (with_reducible refine Below.alloc ?_ ?_ _) | (with_reducible refine Below.drew ?_) | (with_reducible refine Below.setCell ?_ ?_ _) | go_size))
              have s0 : X.cell? ⟨w5.heap.size, 0, none⟩ = some (.int .i64 v.dst) := by subst hX; simp [go_sem]
              have s1 : X.cell? ⟨w5.heap.size, 1, none⟩ = some (.slice DA v.push.length dc) := by subst hX; simp [go_sem]
              have s2 : X.cell? ⟨w5.heap.size, 2, none⟩ = some (.int .i64 v.temp) := by subst hX; simp [go_sem]
              have s3 : X.cell? ⟨w5.heap.size, 3, none⟩ = some (.int .i64 v.val) := by subst hX; simp [go_sem]
              rw [← hX]
              clear hX
              replace p0' := below_cell hbX p0'
              replace p1' := below_cell hbX p1'
              replace p2' := below_cell hbX p2'
              replace p3' := below_cell hbX p3'
              replace hrowp := hrowp.below hbX
              replace hrowd := hrowd.below hbX
              replace hI := hI.go hbX
              clear hbX pl'
              generalize w5.heap.size = bd at s0 s1 s2 s3 ⊢
              cases o : v.ok
              · go_wp2
                go_roundw
                case rel => exact ⟨k + 1, by omega, by go_num, hI⟩
                case measure => simp [intOf]; omega
              · go_wp2_with (go_at_call 18; (with_reducible refine (same_any hrowp hrowd (by omega) (Below.refl _ _)).mono ?_); rintro e w6 ⟨rfl, hb'⟩; have r0 := below_cell hb' p0'; have r1 := below_cell hb' p1'; have r2 := below_cell hb' p2'; have r3 := below_cell hb' p3'; have t0 := below_cell hb' s0; have t1 := below_cell hb' s1; have t2 := below_cell hb' s2; have t3 := below_cell hb' s3; replace hI := hI.go hb'; clear p0' p1' p2' p3' s0 s1 s2 s3 hb' hrowp hrowd)
                go_roundw
                case rel => exact ⟨k + 1, by omega, by go_num, hI⟩
                case measure => simp [intOf]; omega
          · have HS := Lib.hid hs
            clear hs
            obtain ⟨v, hv⟩ : ∃ t, applyV (fewN ln 30) L (fewN cn 100) C a1 (fewN n2 24) F2 (fewN n3 24) F3 sk k sn = t := ⟨_, rfl⟩
            have hvl : v.push.length ≤ 1 := by rw [← hv]; exact apply_push _ _ _
            have HV := Lib.hid hv
            clear hv
            have sc0 : w2.cell? ⟨g, off + k * 3, none⟩ = some (.int .i64 sk) := e0
            have sc1 : w2.cell? ⟨g, off + k * 3 + 1, none⟩ = some (.int .i64 k) := e1
            have sc2 : w2.cell? ⟨g, off + k * 3 + 2, none⟩ = some (.int .i64 sn) := e2
            clear e0 e1 e2
            have hc0 := fun o => hI.cell w.heap.size o zl
            have hl0 := hI.lt_ zl
            have hcg := fun o => hI.cell g o hgl
            have hlg := hI.lt_ hgl
            go_upto_region 13 with (go_at_call 12; (with_reducible refine (rstroke_any R.isM (hI.at0 (by (repeat' (first | (with_reducible exact Below.refl _ _) | (with_reducible assumption) | (with_reducible refine below_drewN ?_ _) | (with_reducible refine Below.alloc ?_ ?_ _) | (with_reducible refine Below.drew ?_) | (with_reducible refine Below.setCell ?_ ?_ _) | go_size)))) _).mono ?_); rw [HS.out]; rintro e w3 ⟨rfl, hb⟩; clear hc0 hl0 hcg hlg; replace hI := hI.step (by (repeat' (first | (with_reducible exact Below.refl _ _) | (with_reducible assumption) | (with_reducible refine below_drewN ?_ _) | (with_reducible refine Below.alloc ?_ ?_ _) | (with_reducible refine Below.drew ?_) | (with_reducible refine Below.setCell ?_ ?_ _) | go_size))) hb; clear hb; have hc0 := fun o => hI.cell w.heap.size o zl; have hl0 := hI.lt_ zl; have hcg := fun o => hI.cell g o hgl; have hlg := hI.lt_ hgl)
            have mx0 := (hc0 0).trans z0
            have mx1 := (hc0 1).trans z1
            have mx2 := (hc0 2).trans z2
            have mx3 := (hc0 3).trans z3
            have mx4 := (hc0 4).trans z4
            have mx5 := (hc0 5).trans z5
            have q0 := (hcg (off + k * 3)).trans sc0
            have q1 := (hcg (off + k * 3 + 1)).trans sc1
            have q2 := (hcg (off + k * 3 + 2)).trans sc2
            go_cut [14, 15] from 33 to 121 (fun a is wz => is = .bool v.ok ∧ ∃ ba PA pc, a = .pointer (some ⟨ba, 0, none⟩) ∧ Below w3.heap.size w3 wz ∧ w3.heap.size ≤ ba ∧ wz.cell? ⟨ba, 0, none⟩ = some (.int .i64 v.dst) ∧ wz.cell? ⟨ba, 1, none⟩ = some (.slice PA v.push.length pc) ∧ wz.cell? ⟨ba, 2, none⟩ = some (.int .i64 v.temp) ∧ wz.cell? ⟨ba, 3, none⟩ = some (.int .i64 v.val) ∧ Row wz PA v.push.length 1 (fun i _ => .int .i64 (v.push.getD i 0)))
            case first =>
              go_region_held3 (fun w' => w'.cell? ⟨w.heap.size, 0, none⟩ = some (.string s) ∧ w'.cell? ⟨w.heap.size, 1, none⟩ = some (.int .i64 x0) ∧ w'.cell? ⟨w.heap.size, 2, none⟩ = some (.int .i64 x1) ∧ w'.cell? ⟨w.heap.size, 3, none⟩ = some (.int .i64 x2) ∧ w'.cell? ⟨w.heap.size, 4, none⟩ = some (.slice LA (fewN ln 30) lc) ∧ w'.cell? ⟨w.heap.size, 5, none⟩ = some (.slice CA (fewN cn 100) cc) ∧ w'.cell? ⟨g, off + k * 3, none⟩ = some (.int .i64 sk) ∧ w'.cell? ⟨g, off + k * 3 + 1, none⟩ = some (.int .i64 k) ∧ w'.cell? ⟨g, off + k * 3 + 2, none⟩ = some (.int .i64 sn)) (first | assumption | (simp [go_sem]; done) | (simp [go_sem, *]; done)) (first | (go_at_call 16; (with_reducible refine (app_any (self := a1) (TF := F2) (FF := F3) R.isM hG R2.words R3.words (hI.at0 (by (repeat' (first | (with_reducible exact Below.refl _ _) | (with_reducible assumption) | (with_reducible refine below_drewN ?_ _) | (with_reducible refine Below.alloc ?_ ?_ _) | (with_reducible refine Below.drew ?_) | (with_reducible refine Below.setCell ?_ ?_ _) | go_size)))) sk k sn).mono ?_); rw [HV.out]; rintro e w4 ⟨PV, rfl, hp, hb'⟩; obtain ⟨PA, pc, rfl, hrowp, _, _, hpb⟩ := own_row1b hp; clear hp; have mx0' : w4.cell? ⟨w.heap.size, 0, none⟩ = some (.string s) := below_cell hb' (by (first | assumption | (simp [go_sem]; done) | (simp [go_sem, *]; done))); have mx1' : w4.cell? ⟨w.heap.size, 1, none⟩ = some (.int .i64 x0) := below_cell hb' (by (first | assumption | (simp [go_sem]; done) | (simp [go_sem, *]; done))); have mx2' : w4.cell? ⟨w.heap.size, 2, none⟩ = some (.int .i64 x1) := below_cell hb' (by (first | assumption | (simp [go_sem]; done) | (simp [go_sem, *]; done))); have mx3' : w4.cell? ⟨w.heap.size, 3, none⟩ = some (.int .i64 x2) := below_cell hb' (by (first | assumption | (simp [go_sem]; done) | (simp [go_sem, *]; done))); have mx4' : w4.cell? ⟨w.heap.size, 4, none⟩ = some (.slice LA (fewN ln 30) lc) := below_cell hb' (by (first | assumption | (simp [go_sem]; done) | (simp [go_sem, *]; done))); have mx5' : w4.cell? ⟨w.heap.size, 5, none⟩ = some (.slice CA (fewN cn 100) cc) := below_cell hb' (by (first | assumption | (simp [go_sem]; done) | (simp [go_sem, *]; done))); have q0' : w4.cell? ⟨g, off + k * 3, none⟩ = some (.int .i64 sk) := below_cell hb' (by (first | assumption | (simp [go_sem]; done) | (simp [go_sem, *]; done))); have q1' : w4.cell? ⟨g, off + k * 3 + 1, none⟩ = some (.int .i64 k) := below_cell hb' (by (first | assumption | (simp [go_sem]; done) | (simp [go_sem, *]; done))); have q2' : w4.cell? ⟨g, off + k * 3 + 2, none⟩ = some (.int .i64 sn) := below_cell hb' (by (first | assumption | (simp [go_sem]; done) | (simp [go_sem, *]; done))); obtain ⟨hcb, hfb⟩ := bcell hb'; (try have ec0 := fun o => hcb (w3.heap.size) o (by simp only [World.size_alloc, World.size_setCell, World.size_drew, size_drewN]; omega)); (try have ef0 := fun o => hfb (w3.heap.size) o (by simp only [World.size_alloc, World.size_setCell, World.size_drew, size_drewN]; omega)); (try have el0 : w3.heap.size < w4.heap.size := Nat.lt_of_lt_of_le (by simp only [World.size_alloc, World.size_setCell, World.size_drew, size_drewN]; omega) hb'.size); have lt1' := cell_lt mx0'; (try dsimp only at lt1'); have lt2' := cell_lt q0'; (try dsimp only at lt2'); clear hcb hfb))
              all_goals
                go_wp2_with fail
                go_meet
                have hT := thru hb' (show Below w3.heap.size w3 _ by (repeat' (first | (with_reducible exact Below.refl _ _) | (with_reducible assumption) | (with_reducible refine below_drewN ?_ _) | (with_reducible refine Below.alloc ?_ ?_ _) | (with_reducible refine Below.drew ?_) | (with_reducible refine Below.setCell ?_ ?_ _) | go_size)))
                have hTs := hT.size
                (try clear z0); (try clear z1); (try clear z2); (try clear z3); (try clear z4); (try clear z5); (try clear mx0); (try clear mx1); (try clear mx2); (try clear mx3); (try clear mx4); (try clear mx5); (try clear mx0'); (try clear mx1'); (try clear mx2'); (try clear mx3'); (try clear mx4'); (try clear mx5'); (try clear q0); (try clear q1); (try clear q2); (try clear q0'); (try clear q1'); (try clear q2'); (try clear lt1'); (try clear lt2'); (try clear hc0); (try clear hl0); (try clear hcg); (try clear hlg); (try clear sc0); (try clear sc1); (try clear sc2); (try clear HV); (try clear HS); (try clear hvl); (try clear hG); (try clear d0); (try clear d5); (try clear h3); (try clear h4); (try clear h5); (try clear h6); (try clear hlt'); (try clear hlt''); (try clear hI); (try clear hB2)
                refine ⟨rfl, _, PA, pc, rfl, ?_, ?_, ?_, ?_, ?_, ?_, ?_⟩
                · (repeat' (first | (with_reducible exact Below.refl _ _) | (with_reducible assumption) | (with_reducible refine below_drewN ?_ _) | (with_reducible refine Below.alloc ?_ ?_ _) | (with_reducible refine Below.drew ?_) | (with_reducible refine Below.setCell ?_ ?_ _) | go_size))
                · first | exact Nat.le_refl _ | exact hTs
                · (first | assumption | (simp [go_sem]; done) | (simp [go_sem, *]; done))
                · (first | assumption | (simp [go_sem]; done) | (simp [go_sem, *]; done))
                · (first | assumption | (simp [go_sem]; done) | (simp [go_sem, *]; done))
                · (first | assumption | (simp [go_sem]; done) | (simp [go_sem, *]; done))
                · first | ((with_reducible refine Row.below hrowp ?_); (first | done | (repeat' (first | (with_reducible exact Below.refl _ _) | (with_reducible assumption) | (with_reducible refine below_drewN ?_ _) | (with_reducible refine Below.alloc ?_ ?_ _) | (with_reducible refine Below.drew ?_) | (with_reducible refine Below.setCell ?_ ?_ _) | go_size))); done) | exact (((hrowp.setCell _ (fun b' o' e => by have := hpb b' o' e; simp only [World.size_alloc, World.size_setCell, World.size_drew, size_drewN] at this; omega)).setCell _ (fun b' o' e => by have := hpb b' o' e; simp only [World.size_alloc, World.size_setCell, World.size_drew, size_drewN] at this; omega)).setCell _ (fun b' o' e => by have := hpb b' o' e; simp only [World.size_alloc, World.size_setCell, World.size_drew, size_drewN] at this; omega)).setCell _ (fun b' o' e => by have := hpb b' o' e; simp only [World.size_alloc, World.size_setCell, World.size_drew, size_drewN] at this; omega)
            case rest =>
              obtain ⟨rfl, ba, PA, pc, rfl, hb, hba, p0, p1, p2, p3, hrowp⟩ := hcut
              clear hc0 hl0 hcg hlg mx0 mx1 mx2 mx3 mx4 mx5 q0 q1 q2
              replace hI := hI.go hb
              clear hb
              have hc0 := fun o => hI.cell w.heap.size o zl
              have hl0 := hI.lt_ zl
              have hcg := fun o => hI.cell g o hgl
              have hlg := hI.lt_ hgl
              have o : v.ok = false := by rw [← HV.out, apply_none HS.out (.inr (.inl (by simpa using d5)))]; rfl
              generalize v.ok = vo at o ⊢
              subst o
              go_wp2
              go_roundw
              case rel => exact ⟨k + 1, by omega, by go_num, hI⟩
              case measure => simp [intOf]; omega
      · have hkn : k = fewN cn 100 := by omega
        have hlt' : decide (k < fewN cn 100) = false := decide_eq_false hlt
        have hc0 := fun o => hI.cell w.heap.size o zl
        have hl0 := hI.lt_ zl
        go_wp2_with (go_at_call 10; (with_reducible refine (lives_any _).mono ?_); rintro e w3 ⟨rfl, hb⟩; replace hI := hI.step (by (repeat' (first | (with_reducible exact Below.refl _ _) | (with_reducible assumption) | (with_reducible refine below_drewN ?_ _) | (with_reducible refine Below.alloc ?_ ?_ _) | (with_reducible refine Below.drew ?_) | (with_reducible refine Below.setCell ?_ ?_ _) | go_size))) hb; clear hb)
        go_ret
        refine ⟨rfl, ?_⟩
        (have hS := hI.bw; have hV := hS.size; (repeat' (first | (with_reducible exact Below.refl _ _) | (with_reducible assumption) | (with_reducible refine below_drewN ?_ _) | (with_reducible refine Below.alloc ?_ ?_ _) | (with_reducible refine Below.drew ?_) | (with_reducible refine Below.setCell ?_ ?_ _) | go_size)))

/-! ### the row's step -/
set_option maxRecDepth 100000 in
theorem lifted (os : Os) (started : os.Started) (H : Type) (enc : TypeId × Value → H) :
    ReturnsInHanded {} Try.checked os 5 .any (Rows.fuseAppliesSpec.pre6 enc Try.prog Try.f5 Rows.fuseAppliesRow.domain false) (Rows.fuseAppliesSpec.post enc Try.prog Try.f5 false true false false) := by
  refine returnsInHanded_of_change (C := Try.checked) own started (by kernel_rfl) Try.func5
    (ChangeSpec.witness6 (enc := enc) (C := Try.checked) false ⟨#[], #[.agg #[.string ⟨#[]⟩, .int .i64 0, .int .i64 0, .int .i64 0, .slice none 0 0, .slice none 0 0], .int .i64 0, .slice none 0 0, .slice none 0 0], []⟩ 8 (by kernel_rfl) (by kernel_rfl) (by kernel_rfl) (by kernel_rfl)) ?_
  intro W base args ds gs before hval0 hW hcnd _
  have hval : ∀ (j : Nat) t v, Try.f5.params[j]? = some t → args[j]? = some v → Value.okWide Try.prog W .any base t v := hval0
  have hW' := hW
  obtain ⟨p, q, hA0, hV, rfl, hfz, hnd⟩ := hW
  have hA : DataW.TrodAll enc Try.prog W 0 (fun _ => true) true Try.f5.params.toList args.toList ds p := hA0
  rw [Try.params5] at hA hval
  obtain ⟨v0, vs0, d0, ds0, p0, q0, hargs, rfl, rfl, h0, r0⟩ := trodAll_cons hA
  obtain ⟨v1, vs1, d1, ds1, p1, q1, rfl, rfl, rfl, h1, r1⟩ := trodAll_cons r0
  obtain ⟨v2, vs2, d2, ds2, p2, q2, rfl, rfl, rfl, h2, r2⟩ := trodAll_cons r1
  obtain ⟨v3, vs3, d3, ds3, p3, q3, rfl, rfl, rfl, h3, r3⟩ := trodAll_cons r2
  obtain ⟨rfl, rfl, rfl⟩ := trodAll_nil r3
  obtain rfl : args = #[v0, v1, v2, v3] := by cases args; simp_all
  obtain ⟨rfl, rfl⟩ := trodVars_none hV
  have k0 := h0
  have lt0 : ∀ x ∈ p0, x.block < W.heap.size := by obtain ⟨m, hm⟩ := k0; exact DataW.trod_lt m _ _ _ hm
  obtain ⟨s, x0, x1, x2, LA, ln, lc, CA, cn, cc, L, C, rfl, R⟩ := open_method (hval 0 25 v0 rfl rfl) h0
  obtain ⟨a1, rfl, rfl, rfl, w1⟩ := open_int Try.underlying3 (hval 1 3 v1 rfl rfl) h1
  have k2 := h2
  have lt2 : ∀ x ∈ p2, x.block < W.heap.size := by obtain ⟨m, hm⟩ := k2; exact DataW.trod_lt m _ _ _ hm
  obtain ⟨A2, n2, c2, F2, rfl, R2⟩ := open_words (hval 2 36 v2 rfl rfl) h2
  have k3 := h3
  have lt3 : ∀ x ∈ p3, x.block < W.heap.size := by obtain ⟨m, hm⟩ := k3; exact DataW.trod_lt m _ _ _ hm
  obtain ⟨A3, n3, c3, F3, rfl, R3⟩ := open_words (hval 3 36 v3 rfl rfl) h3
  clear hA0 hval0
  refine (walk W _ _ _ _ _ _ _ _ _ _ _ _ R _ _ _ _ _ R2 _ _ _ _ R3).mono fun e W' ⟨he, bel⟩ => ?_
  subst he
  exact ⟨_, rfl, _, _, _, [], _, [], hW', trodAll_mk1 (shut_bool Try.underlying4 _), (trodAll_cons_mk (Below.trod laidOut (by kernel_rfl) (of_decide_eq_true (by kernel_rfl)) k0 bel lt0) (trodAll_cons_mk (shut_int Try.underlying3 w1) (trodAll_cons_mk (Below.trod laidOut (by kernel_rfl) (of_decide_eq_true (by kernel_rfl)) k2 bel lt2) (trodAll_cons_mk (Below.trod laidOut (by kernel_rfl) (of_decide_eq_true (by kernel_rfl)) k3 bel lt3) trodAll_mk0)))), rfl, bel.frame _, fun h => by cases h⟩

theorem over : Rows.fuseAppliesRow.holds Try.pinned (OpenSpec.ofChange Rows.fuseAppliesSpec) :=
  OpenClaim.holds_of_wide 5 Try.f5 rfl rfl rfl rfl rfl rfl rfl ⟨rfl, rfl, rfl, rfl, rfl⟩ rfl rfl rfl rfl rfl (by kernel_rfl) Try.func5 (by kernel_rfl)
    (of_decide_eq_true (by kernel_rfl)) (by unfold Func.isWrapper; first | (rw [if_pos (by decide +kernel)]; kernel_rfl) | (rw [if_neg (by decide +kernel)]; exact ⟨rfl, rfl⟩))
    (fun os started H enc _ => lifted os started H enc)

theorem proved : Rows.FuseAppliesSaid := over
end Go.Proofs.Ytjiidjcehhdnbaa.fuseApplies

/- The law CodeOne of chapter 09 holds for every input: it returns true, and its arguments stay. The tables that the row lists are tied to the program's text. -/
import Derived.Test.YtclndbiljhbbkaaDoorRows
import Derived.Test.YtclndbiljhbbkaaDoorTie
import Derived.Test.YtclndbiljhbbkaaDoorCards
import Derived.Test.YtclndbiljhbbkaaDoorC5
import Derived.Deep.RegionHeld3
import Derived.WalkKit
import Derived.ProofKit
import Derived.OpenShut
import Derived.ChangeOld
import Derived.Below
import Derived.SevenTiedAt
namespace Go.Proofs.YtclndbiljhbbkaaDoor.codeOne
open Go.ChangeShapes Go.WideShapes Go.ChangeAt Go.RowKit Go.Deep Go.Joins
set_option linter.unusedVariables false
set_option linter.unusedSimpArgs false
theorem tmod_in (x : Int) : -1000000 ≤ x.tmod 1000000 ∧ x.tmod 1000000 ≤ 1000000 := by
  have h1 := Int.tmod_lt_of_pos x (show (0 : Int) < 1000000 by decide)
  have h2 := Int.lt_tmod_of_pos x (show (0 : Int) < 1000000 by decide)
  omega

set_option maxRecDepth 100000 in
set_option maxHeartbeats 40000000 in
theorem walk (w : World) (hT : TabsB w) (op0 x0 y0 : Int) (r0_ : InIns ⟨op0, x0, y0⟩) (a1 : Int) (r1_ : -9223372036854775808 ≤ a1 ∧ a1 ≤ 9223372036854775807) (a2 : Int) (r2_ : -9223372036854775808 ≤ a2 ∧ a2 ≤ 9223372036854775807) :
    Calls Tryd.prog 4 #[.agg #[.int .i64 op0, .int .i64 x0, .int .i64 y0], .int .i64 a1, .int .i64 a2] w fun e w' => e = .returned (.bool true) ∧ Below w.heap.size w w' := by
  have HT := Lib.hid hT
  obtain ⟨⟨o, x, y⟩, hti⟩ : ∃ i, (toV a1 a2).1 = i := ⟨_, rfl⟩
  obtain ⟨er, hte⟩ : ∃ er, (toV a1 a2).2 = er := ⟨_, rfl⟩
  obtain ⟨W, hW⟩ : ∃ W, W = w.alloc (.cells #[.int .i64 op0, .int .i64 x0, .int .i64 y0] 31) := ⟨_, rfl⟩
  have hBW : Below w.heap.size w W := by rw [hW]; (repeat' (first | (with_reducible exact Below.refl _ _) | (with_reducible assumption) | (with_reducible refine below_drewN ?_ _) | (with_reducible refine Below.alloc ?_ ?_ _) | (with_reducible refine Below.drew ?_) | (with_reducible refine Below.setCell ?_ ?_ _) | go_size))
  have p0 : W.cell? ⟨w.heap.size, 0, none⟩ = some (.int .i64 op0) := by rw [hW]; simp [go_sem]
  have q0 : W.frozen? ⟨w.heap.size, 0, none⟩ = false := by rw [hW]; simp [go_sem]
  have p1 : W.cell? ⟨w.heap.size, 1, none⟩ = some (.int .i64 x0) := by rw [hW]; simp [go_sem]
  have q1 : W.frozen? ⟨w.heap.size, 1, none⟩ = false := by rw [hW]; simp [go_sem]
  have p2 : W.cell? ⟨w.heap.size, 2, none⟩ = some (.int .i64 y0) := by rw [hW]; simp [go_sem]
  have q2 : W.frozen? ⟨w.heap.size, 2, none⟩ = false := by rw [hW]; simp [go_sem]
  clear hT
  go_enter Tryd.func4, Tryd.ntmps4
  go_wp2_with fail
  rw [← hW]
  have HZW : Hid (w.heap.size < W.heap.size) := Lib.hid (cell_lt p0)
  clear hW
  (with_reducible refine (to_any a1 a2 _).mono ?_)
  rintro e w1 ⟨rfl, hb1⟩
  rw [hti, hte]
  dsimp only
  go_upto_region 2 with fail
  have hA1 := hb1.trans (((Below.refl w1.heap.size w1).alloc (Nat.le_refl _) (.cells #[.int .i64 o, .int .i64 x, .int .i64 y] 31)).mono hb1.size)
  obtain ⟨w2, hww2⟩ : ∃ w2, w2 = w1.alloc (.cells #[.int .i64 o, .int .i64 x, .int .i64 y] 31) := ⟨_, rfl⟩
  rw [← hww2] at hA1 ⊢
  obtain ⟨g1, hgg1⟩ : ∃ g1, g1 = w1.heap.size := ⟨_, rfl⟩
  have z1 : g1 < w2.heap.size := by rw [hww2, hgg1]; go_size
  have x0_ : w2.cell? ⟨g1, 0, none⟩ = some (.int .i64 o) := by rw [hww2, hgg1]; simp [go_sem]
  have x1_ : w2.cell? ⟨g1, 1, none⟩ = some (.int .i64 x) := by rw [hww2, hgg1]; simp [go_sem]
  have x2_ : w2.cell? ⟨g1, 2, none⟩ = some (.int .i64 y) := by rw [hww2, hgg1]; simp [go_sem]
  rw [← hgg1]
  replace q0 : _ = false := (hA1.frozen (p := ⟨w.heap.size, 0, none⟩) (cell_lt p0)).trans q0
  replace q1 : _ = false := (hA1.frozen (p := ⟨w.heap.size, 1, none⟩) (cell_lt p1)).trans q1
  replace q2 : _ = false := (hA1.frozen (p := ⟨w.heap.size, 2, none⟩) (cell_lt p2)).trans q2
  replace p0 := below_cell hA1 p0
  replace p1 := below_cell hA1 p1
  replace p2 := below_cell hA1 p2
  have hB2 := hBW.trans (hA1.mono hBW.size)
  have ng1 : w.heap.size < g1 := by rw [hgg1]; exact Nat.lt_of_lt_of_le HZW.out hb1.size
  have ng0 : w.heap.size < w2.heap.size := cell_lt p0
  clear hww2 hgg1 hb1 hA1 hBW
  go_wp2_with fail
  (with_reducible refine (rto_any a1 a2 _).mono ?_)
  rintro e w3 ⟨rfl, hb3⟩
  rw [hti, hte]
  dsimp only
  go_upto_region 3 with fail
  have hA3 := hb3.trans (((Below.refl w3.heap.size w3).alloc (Nat.le_refl _) (.cells #[.int .i64 o, .int .i64 x, .int .i64 y] 31)).mono hb3.size)
  obtain ⟨w4, hww4⟩ : ∃ w4, w4 = w3.alloc (.cells #[.int .i64 o, .int .i64 x, .int .i64 y] 31) := ⟨_, rfl⟩
  rw [← hww4] at hA3 ⊢
  obtain ⟨g2, hgg2⟩ : ∃ g2, g2 = w3.heap.size := ⟨_, rfl⟩
  have z2 : g2 < w4.heap.size := by rw [hww4, hgg2]; go_size
  have y0_ : w4.cell? ⟨g2, 0, none⟩ = some (.int .i64 o) := by rw [hww4, hgg2]; simp [go_sem]
  have y1_ : w4.cell? ⟨g2, 1, none⟩ = some (.int .i64 x) := by rw [hww4, hgg2]; simp [go_sem]
  have y2_ : w4.cell? ⟨g2, 2, none⟩ = some (.int .i64 y) := by rw [hww4, hgg2]; simp [go_sem]
  rw [← hgg2]
  replace q0 : _ = false := (hA3.frozen (p := ⟨w.heap.size, 0, none⟩) (cell_lt p0)).trans q0
  replace q1 : _ = false := (hA3.frozen (p := ⟨w.heap.size, 1, none⟩) (cell_lt p1)).trans q1
  replace q2 : _ = false := (hA3.frozen (p := ⟨w.heap.size, 2, none⟩) (cell_lt p2)).trans q2
  replace p0 := below_cell hA3 p0
  replace p1 := below_cell hA3 p1
  replace p2 := below_cell hA3 p2
  replace x0_ := below_cell hA3 x0_
  replace x1_ := below_cell hA3 x1_
  replace x2_ := below_cell hA3 x2_
  have hB4 := hB2.trans (hA3.mono hB2.size)
  have y1 : g1 < w4.heap.size := cell_lt x0_
  have ng2 : w.heap.size < g2 := by rw [hgg2]; exact Nat.lt_of_lt_of_le ng0 hb3.size
  have zz0 : w.heap.size < w4.heap.size := cell_lt p0
  clear hww4 hgg2 hb3 hA3 hB2 z1 hti hte
  go_upto_region 5 with fail
  obtain ⟨a, ha_⟩ : ∃ a, x0.tmod 1000000 = a := ⟨_, rfl⟩
  obtain ⟨b, hb_⟩ : ∃ b, y0.tmod 1000000 = b := ⟨_, rfl⟩
  have ha : -1000000 ≤ a ∧ a ≤ 1000000 := by rw [← ha_]; exact tmod_in x0
  have hb : -1000000 ≤ b ∧ b ≤ 1000000 := by rw [← hb_]; exact tmod_in y0
  rw [ha_, hb_]
  obtain ⟨w5, hw5⟩ : ∃ w5, w5 = (w4.setCell ⟨w.heap.size, 1, none⟩ (.int .i64 a)).setCell ⟨w.heap.size, 2, none⟩ (.int .i64 b) := ⟨_, rfl⟩
  rw [← hw5]
  have hB5 : Below w.heap.size w w5 := by rw [hw5]; exact (hB4.setCell (Nat.le_refl _) _).setCell (Nat.le_refl _) _
  have hg1 : g1 ≠ w.heap.size := by omega
  have hg2 : g2 ≠ w.heap.size := by omega
  have s0 : w5.cell? ⟨w.heap.size, 0, none⟩ = some (.int .i64 op0) := by rw [hw5]; simp [go_sem, p0, p1, p2]
  have s1 : w5.cell? ⟨w.heap.size, 1, none⟩ = some (.int .i64 a) := by rw [hw5]; simp [go_sem, p0, p1, p2]
  have s2 : w5.cell? ⟨w.heap.size, 2, none⟩ = some (.int .i64 b) := by rw [hw5]; simp [go_sem, p0, p1, p2]
  have s3 : w5.cell? ⟨g1, 0, none⟩ = some (.int .i64 o) := by rw [hw5, World.cell?_setCell_other _ _ _ _ (by first | (simp; done) | (simp; omega)), World.cell?_setCell_other _ _ _ _ (by first | (simp; done) | (simp; omega))]; exact x0_
  have s4 : w5.cell? ⟨g1, 1, none⟩ = some (.int .i64 x) := by rw [hw5, World.cell?_setCell_other _ _ _ _ (by first | (simp; done) | (simp; omega)), World.cell?_setCell_other _ _ _ _ (by first | (simp; done) | (simp; omega))]; exact x1_
  have s5 : w5.cell? ⟨g1, 2, none⟩ = some (.int .i64 y) := by rw [hw5, World.cell?_setCell_other _ _ _ _ (by first | (simp; done) | (simp; omega)), World.cell?_setCell_other _ _ _ _ (by first | (simp; done) | (simp; omega))]; exact x2_
  have s6 : w5.cell? ⟨g2, 0, none⟩ = some (.int .i64 o) := by rw [hw5, World.cell?_setCell_other _ _ _ _ (by first | (simp; done) | (simp; omega)), World.cell?_setCell_other _ _ _ _ (by first | (simp; done) | (simp; omega))]; exact y0_
  have s7 : w5.cell? ⟨g2, 1, none⟩ = some (.int .i64 x) := by rw [hw5, World.cell?_setCell_other _ _ _ _ (by first | (simp; done) | (simp; omega)), World.cell?_setCell_other _ _ _ _ (by first | (simp; done) | (simp; omega))]; exact y1_
  have s8 : w5.cell? ⟨g2, 2, none⟩ = some (.int .i64 y) := by rw [hw5, World.cell?_setCell_other _ _ _ _ (by first | (simp; done) | (simp; omega)), World.cell?_setCell_other _ _ _ _ (by first | (simp; done) | (simp; omega))]; exact y2_
  have zz : w.heap.size < w5.heap.size := cell_lt s0
  have zz1 : g1 < w5.heap.size := cell_lt s3
  have zz2 : g2 < w5.heap.size := cell_lt s6
  have HT5 := Lib.hid (HT.out.below hB5)
  have HB5 := Lib.hid hB5
  obtain ⟨mv, hmv⟩ : ∃ mv, mayB ⟨op0, a, b⟩ = mv := ⟨_, rfl⟩
  obtain ⟨tv, htv⟩ : ∃ tv, targetV ⟨op0, a, b⟩ = tv := ⟨_, rfl⟩
  obtain ⟨gv, hgv⟩ : ∃ gv, growsV ⟨op0, a, b⟩ = gv := ⟨_, rfl⟩
  have HM := Lib.hid hmv
  have HTG := Lib.hid htv
  have HG := Lib.hid hgv
  clear hw5 hmv htv hgv hB5 hB4 ha_ hb_ hg1 hg2 p0 p1 p2 q0 q1 q2 x0_ x1_ x2_ y0_ y1_ y2_ y1 z2 zz0
  go_region_held3 (fun w' => w'.cell? ⟨w.heap.size, 0, none⟩ = some (.int .i64 op0) ∧ w'.cell? ⟨w.heap.size, 1, none⟩ = some (.int .i64 a) ∧ w'.cell? ⟨w.heap.size, 2, none⟩ = some (.int .i64 b) ∧ w'.cell? ⟨g1, 0, none⟩ = some (.int .i64 o) ∧ w'.cell? ⟨g1, 1, none⟩ = some (.int .i64 x) ∧ w'.cell? ⟨g1, 2, none⟩ = some (.int .i64 y) ∧ w'.cell? ⟨g2, 0, none⟩ = some (.int .i64 o) ∧ w'.cell? ⟨g2, 1, none⟩ = some (.int .i64 x) ∧ w'.cell? ⟨g2, 2, none⟩ = some (.int .i64 y)) (first | assumption | (refine ⟨?_, ?_, ?_, ?_, ?_, ?_, ?_, ?_, ?_⟩ <;> first | assumption | (simp [go_sem, *]; done)) | (simp [go_sem, *]; done)) (first | (go_at_call 16; (with_reducible refine (may_any op0 a b _).mono ?_); rw [HM.out]; rintro e w6 ⟨rfl, hb6⟩; have hb6' := Below.trans' (show Below w5.heap.size w5 _ by (repeat' (first | (with_reducible exact Below.refl _ _) | (with_reducible assumption) | (with_reducible refine below_drewN ?_ _) | (with_reducible refine Below.alloc ?_ ?_ _) | (with_reducible refine Below.drew ?_) | (with_reducible refine Below.setCell ?_ ?_ _) | go_size))) hb6; have k0 := (hb6'.cell (p := ⟨w.heap.size, 0, none⟩) zz).trans s0; have k1 := (hb6'.cell (p := ⟨w.heap.size, 1, none⟩) zz).trans s1; have k2 := (hb6'.cell (p := ⟨w.heap.size, 2, none⟩) zz).trans s2; have k3 := (hb6'.cell (p := ⟨g1, 0, none⟩) zz1).trans s3; have k4 := (hb6'.cell (p := ⟨g1, 1, none⟩) zz1).trans s4; have k5 := (hb6'.cell (p := ⟨g1, 2, none⟩) zz1).trans s5; have k6 := (hb6'.cell (p := ⟨g2, 0, none⟩) zz2).trans s6; have k7 := (hb6'.cell (p := ⟨g2, 1, none⟩) zz2).trans s7; have k8 := (hb6'.cell (p := ⟨g2, 2, none⟩) zz2).trans s8; have HB6 := Lib.hid hb6') | (go_at_call 17; (with_reducible refine (rmay_any op0 a b _).mono ?_); rw [HM.out]; rintro e w6 ⟨rfl, hb6⟩; have hb6' := Below.trans' (show Below w5.heap.size w5 _ by (repeat' (first | (with_reducible exact Below.refl _ _) | (with_reducible assumption) | (with_reducible refine below_drewN ?_ _) | (with_reducible refine Below.alloc ?_ ?_ _) | (with_reducible refine Below.drew ?_) | (with_reducible refine Below.setCell ?_ ?_ _) | go_size))) hb6; have k0 := (hb6'.cell (p := ⟨w.heap.size, 0, none⟩) zz).trans s0; have k1 := (hb6'.cell (p := ⟨w.heap.size, 1, none⟩) zz).trans s1; have k2 := (hb6'.cell (p := ⟨w.heap.size, 2, none⟩) zz).trans s2; have k3 := (hb6'.cell (p := ⟨g1, 0, none⟩) zz1).trans s3; have k4 := (hb6'.cell (p := ⟨g1, 1, none⟩) zz1).trans s4; have k5 := (hb6'.cell (p := ⟨g1, 2, none⟩) zz1).trans s5; have k6 := (hb6'.cell (p := ⟨g2, 0, none⟩) zz2).trans s6; have k7 := (hb6'.cell (p := ⟨g2, 1, none⟩) zz2).trans s7; have k8 := (hb6'.cell (p := ⟨g2, 2, none⟩) zz2).trans s8; have HB6 := Lib.hid hb6') | (go_at_call 18; (with_reducible refine (target_any op0 a b _ ha.1 ha.2 hb.1 hb.2).mono ?_); rw [HTG.out]; rintro e w6 ⟨rfl, hb6⟩; have hb6' := Below.trans' (show Below w5.heap.size w5 _ by (repeat' (first | (with_reducible exact Below.refl _ _) | (with_reducible assumption) | (with_reducible refine below_drewN ?_ _) | (with_reducible refine Below.alloc ?_ ?_ _) | (with_reducible refine Below.drew ?_) | (with_reducible refine Below.setCell ?_ ?_ _) | go_size))) hb6; have k0 := (hb6'.cell (p := ⟨w.heap.size, 0, none⟩) zz).trans s0; have k1 := (hb6'.cell (p := ⟨w.heap.size, 1, none⟩) zz).trans s1; have k2 := (hb6'.cell (p := ⟨w.heap.size, 2, none⟩) zz).trans s2; have k3 := (hb6'.cell (p := ⟨g1, 0, none⟩) zz1).trans s3; have k4 := (hb6'.cell (p := ⟨g1, 1, none⟩) zz1).trans s4; have k5 := (hb6'.cell (p := ⟨g1, 2, none⟩) zz1).trans s5; have k6 := (hb6'.cell (p := ⟨g2, 0, none⟩) zz2).trans s6; have k7 := (hb6'.cell (p := ⟨g2, 1, none⟩) zz2).trans s7; have k8 := (hb6'.cell (p := ⟨g2, 2, none⟩) zz2).trans s8; have HB6 := Lib.hid hb6') | (go_at_call 19; (with_reducible refine (rtarget_any op0 a b _ ha.1 ha.2 hb.1 hb.2).mono ?_); rw [HTG.out]; rintro e w6 ⟨rfl, hb6⟩; have hb6' := Below.trans' (show Below w5.heap.size w5 _ by (repeat' (first | (with_reducible exact Below.refl _ _) | (with_reducible assumption) | (with_reducible refine below_drewN ?_ _) | (with_reducible refine Below.alloc ?_ ?_ _) | (with_reducible refine Below.drew ?_) | (with_reducible refine Below.setCell ?_ ?_ _) | go_size))) hb6; have k0 := (hb6'.cell (p := ⟨w.heap.size, 0, none⟩) zz).trans s0; have k1 := (hb6'.cell (p := ⟨w.heap.size, 1, none⟩) zz).trans s1; have k2 := (hb6'.cell (p := ⟨w.heap.size, 2, none⟩) zz).trans s2; have k3 := (hb6'.cell (p := ⟨g1, 0, none⟩) zz1).trans s3; have k4 := (hb6'.cell (p := ⟨g1, 1, none⟩) zz1).trans s4; have k5 := (hb6'.cell (p := ⟨g1, 2, none⟩) zz1).trans s5; have k6 := (hb6'.cell (p := ⟨g2, 0, none⟩) zz2).trans s6; have k7 := (hb6'.cell (p := ⟨g2, 1, none⟩) zz2).trans s7; have k8 := (hb6'.cell (p := ⟨g2, 2, none⟩) zz2).trans s8; have HB6 := Lib.hid hb6') | (go_at_call 20; (with_reducible refine (grows_any op0 a b _ hb.1 hb.2).mono ?_); rw [HG.out]; rintro e w6 ⟨rfl, hb6⟩; have hb6' := Below.trans' (show Below w5.heap.size w5 _ by (repeat' (first | (with_reducible exact Below.refl _ _) | (with_reducible assumption) | (with_reducible refine below_drewN ?_ _) | (with_reducible refine Below.alloc ?_ ?_ _) | (with_reducible refine Below.drew ?_) | (with_reducible refine Below.setCell ?_ ?_ _) | go_size))) hb6; have k0 := (hb6'.cell (p := ⟨w.heap.size, 0, none⟩) zz).trans s0; have k1 := (hb6'.cell (p := ⟨w.heap.size, 1, none⟩) zz).trans s1; have k2 := (hb6'.cell (p := ⟨w.heap.size, 2, none⟩) zz).trans s2; have k3 := (hb6'.cell (p := ⟨g1, 0, none⟩) zz1).trans s3; have k4 := (hb6'.cell (p := ⟨g1, 1, none⟩) zz1).trans s4; have k5 := (hb6'.cell (p := ⟨g1, 2, none⟩) zz1).trans s5; have k6 := (hb6'.cell (p := ⟨g2, 0, none⟩) zz2).trans s6; have k7 := (hb6'.cell (p := ⟨g2, 1, none⟩) zz2).trans s7; have k8 := (hb6'.cell (p := ⟨g2, 2, none⟩) zz2).trans s8; have HB6 := Lib.hid hb6') | (go_at_call 21; (with_reducible refine (rgrows_any op0 a b _ hb.1 hb.2).mono ?_); rw [HG.out]; rintro e w6 ⟨rfl, hb6⟩; have hb6' := Below.trans' (show Below w5.heap.size w5 _ by (repeat' (first | (with_reducible exact Below.refl _ _) | (with_reducible assumption) | (with_reducible refine below_drewN ?_ _) | (with_reducible refine Below.alloc ?_ ?_ _) | (with_reducible refine Below.drew ?_) | (with_reducible refine Below.setCell ?_ ?_ _) | go_size))) hb6; have k0 := (hb6'.cell (p := ⟨w.heap.size, 0, none⟩) zz).trans s0; have k1 := (hb6'.cell (p := ⟨w.heap.size, 1, none⟩) zz).trans s1; have k2 := (hb6'.cell (p := ⟨w.heap.size, 2, none⟩) zz).trans s2; have k3 := (hb6'.cell (p := ⟨g1, 0, none⟩) zz1).trans s3; have k4 := (hb6'.cell (p := ⟨g1, 1, none⟩) zz1).trans s4; have k5 := (hb6'.cell (p := ⟨g1, 2, none⟩) zz1).trans s5; have k6 := (hb6'.cell (p := ⟨g2, 0, none⟩) zz2).trans s6; have k7 := (hb6'.cell (p := ⟨g2, 1, none⟩) zz2).trans s7; have k8 := (hb6'.cell (p := ⟨g2, 2, none⟩) zz2).trans s8; have HB6 := Lib.hid hb6') | (go_at_call 13; (with_reducible refine (lives_any _ (HT5.out.below (show Below w5.heap.size w5 _ by (repeat' (first | (with_reducible exact Below.refl _ _) | (with_reducible assumption) | (with_reducible refine below_drewN ?_ _) | (with_reducible refine Below.alloc ?_ ?_ _) | (with_reducible refine Below.drew ?_) | (with_reducible refine Below.setCell ?_ ?_ _) | go_size))))).mono ?_); rintro e w6 ⟨rfl, hb6⟩; have hb6' := Below.trans' (show Below w5.heap.size w5 _ by (repeat' (first | (with_reducible exact Below.refl _ _) | (with_reducible assumption) | (with_reducible refine below_drewN ?_ _) | (with_reducible refine Below.alloc ?_ ?_ _) | (with_reducible refine Below.drew ?_) | (with_reducible refine Below.setCell ?_ ?_ _) | go_size))) hb6; have k0 := (hb6'.cell (p := ⟨w.heap.size, 0, none⟩) zz).trans s0; have k1 := (hb6'.cell (p := ⟨w.heap.size, 1, none⟩) zz).trans s1; have k2 := (hb6'.cell (p := ⟨w.heap.size, 2, none⟩) zz).trans s2; have k3 := (hb6'.cell (p := ⟨g1, 0, none⟩) zz1).trans s3; have k4 := (hb6'.cell (p := ⟨g1, 1, none⟩) zz1).trans s4; have k5 := (hb6'.cell (p := ⟨g1, 2, none⟩) zz1).trans s5; have k6 := (hb6'.cell (p := ⟨g2, 0, none⟩) zz2).trans s6; have k7 := (hb6'.cell (p := ⟨g2, 1, none⟩) zz2).trans s7; have k8 := (hb6'.cell (p := ⟨g2, 2, none⟩) zz2).trans s8; have HB6 := Lib.hid hb6'))
  go_wp2_with fail
  go_ret
  exact ⟨rfl, HB5.out.trans (HB6.out.mono HB5.out.size)⟩


/-! ### the row's step -/
set_option maxRecDepth 100000 in
theorem lifted (os : Os) (started : os.Started) (H : Type) (enc : TypeId × Value → H) :
    ReturnsInHanded {} Tryd.checked os 4 .any (fun w args => (Rows.codeOneSpec.pre enc Tryd.prog Tryd.f4 [] false w args ∧ laidMetH Tryd.prog laid4 w) ∧ sizedMet enc Tryd.prog Tryd.f4 (OpenSpec.ofChange Rows.codeOneSpec) false w args) (Rows.codeOneSpec.post enc Tryd.prog Tryd.f4 false true false false) := by
  refine returnsInHanded_of_change_and (C := Tryd.checked) (X := fun w _ => laidMetH Tryd.prog laid4 w) (fun _ _ _ hh h => h.of_heap hh) own9 started (by kernel_rfl) Tryd.func4
    (ChangeSpec.witness_shaped (enc := enc) (C := Tryd.checked) (os := os) (X := fun w _ => laidMetH Tryd.prog laid4 w) false (World.doorLaid Tryd.prog 29 os) #[.agg #[.int .i64 0, .int .i64 0, .int .i64 0], .int .i64 0, .int .i64 0] 8 rfl (World.shaped_of_RefB (by kernel_rfl) (by kernel_rfl)) (by kernel_rfl) (by kernel_rfl) (by kernel_rfl) (door_met os _)) ?_
  intro W base args ds gs before hval0 hW _ _ hL _
  have hval : ∀ (j : Nat) t v, Tryd.f4.params[j]? = some t → args[j]? = some v → Value.okWide Tryd.prog W .any base t v := hval0
  have hW' := hW
  obtain ⟨p, q, hA0, hV, rfl, hfz, hnd⟩ := hW
  have hA : DataW.TrodAll enc Tryd.prog W 0 (fun _ => true) true Tryd.f4.params.toList args.toList ds p := hA0
  rw [Tryd.params4] at hA hval
  obtain ⟨v0, vs0, d0, ds0, p0, q0, hargs, rfl, rfl, h0, r0⟩ := trodAll_cons hA
  obtain ⟨v1, vs1, d1, ds1, p1, q1, rfl, rfl, rfl, h1, r1⟩ := trodAll_cons r0
  obtain ⟨v2, vs2, d2, ds2, p2, q2, rfl, rfl, rfl, h2, r2⟩ := trodAll_cons r1
  obtain ⟨rfl, rfl, rfl⟩ := trodAll_nil r2
  obtain rfl : args = #[v0, v1, v2] := by cases args; simp_all
  obtain ⟨rfl, rfl⟩ := trodVars_none hV
  have k0 := h0
  have lt0 : ∀ x ∈ p0, x.block < W.heap.size := by obtain ⟨m, hm⟩ := k0; exact DataW.trod_lt m _ _ _ hm
  obtain ⟨op0, x0, y0, rfl, R0⟩ := open_instr (hval 0 31 v0 rfl rfl) h0
  obtain ⟨a1, rfl, rfl, rfl, w1⟩ := open_int Tryd.underlying3 (hval 1 3 v1 rfl rfl) h1
  obtain ⟨a2, rfl, rfl, rfl, w2⟩ := open_int Tryd.underlying3 (hval 2 3 v2 rfl rfl) h2
  clear hA0 hval0
  refine (walk W (tabs_of_laid hL) _ _ _ R0 _ (bounds9 w1) _ (bounds9 w2)).mono fun e W' ⟨he, bel⟩ => ?_
  subst he
  exact ⟨_, rfl, _, _, _, [], _, [], hW', trodAll_mk1 (shut_bool Tryd.underlying4 _), (trodAll_cons_mk (Below.trod laidOut9 (by kernel_rfl) (of_decide_eq_true (by kernel_rfl)) k0 bel lt0) (trodAll_cons_mk (shut_int Tryd.underlying3 w1) (trodAll_cons_mk (shut_int Tryd.underlying3 w2) trodAll_mk0))), rfl, bel.frame _, fun h => by cases h⟩

theorem over : Rows.codeOneRow.holds Tryd.pinned (OpenSpec.ofChange Rows.codeOneSpec) :=
  OpenClaim.holds_of_wide 4 Tryd.f4 rfl rfl rfl rfl rfl rfl rfl ⟨rfl, rfl, rfl, rfl, rfl⟩ rfl rfl rfl rfl rfl (by kernel_rfl) Tryd.func4 (by kernel_rfl)
    (of_decide_eq_true (by kernel_rfl)) (by unfold Func.isWrapper; first | (rw [if_pos (by decide +kernel)]; kernel_rfl) | (rw [if_neg (by decide +kernel)]; exact ⟨rfl, rfl⟩))
    (fun os started H enc _ => lifted os started H enc)

theorem proved : Rows.CodeOneCardSaid :=
  Claim7.holds_tied_plain_at .later [] [.data, .data, .data, .data] true (true, "19e9b0c65279d3d3fe7d7dcd55886fc2e804bea849dccd7f0254f23fa2434a49") false
    over (fun _ h => by cases h) (by kernel_rfl) (fun _ h => by cases h) codeOne_row_tie rfl ⟨rfl, rfl⟩ (by kernel_rfl) rfl
    (fun f fn hf hfn => by
      obtain rfl : f = 4 := Option.some.inj ((show Tryd.prog.funcNamed Rows.codeOneRow.func = some 4 by kernel_rfl).symm.trans hf) |>.symm
      obtain rfl : fn = Tryd.f4 := (Option.some.inj (Tryd.func4.symm.trans hfn)).symm
      exact ⟨by kernel_rfl, fun j t ht => by
        rw [Tryd.params4] at ht
        have hm : t ∈ [31, 3, 3] := by simpa using Array.mem_of_getElem? ht
        have hall : ([31, 3, 3].all fun u => !Tryd.prog.wantsStandIn u) = true := by kernel_rfl
        exact (show Tryd.prog.wantsStandIn t = false by simpa using List.all_eq_true.1 hall t hm)⟩)
    (by kernel_rfl)
end Go.Proofs.YtclndbiljhbbkaaDoor.codeOne

/- The document's examples of chapter 18 hold: the walk. -/
import Derived.Test.YtjiidjcehhdnbaaFW12
namespace Go.Proofs.Ytjiidjcehhdnbaa
open Go.ChangeShapes Go.WideShapes Go.ChangeAt Go.RowKit
set_option linter.unusedVariables false
set_option linter.unusedSimpArgs false

theorem ex_cells : planCells 2 exL 6 exC 6 = [1, 0, 3].map (.int .i64) ++ (strokeCells (strokeV 2 exL 6 exC 1) ++ strokeCells (strokeV 2 exL 6 exC 2)) ++ [4, 3, 3].map (.int .i64) ++ (strokeCells (strokeV 2 exL 6 exC 4) ++ strokeCells (strokeV 2 exL 6 exC 5)) := by
  have h0 := ex_s0; have h3 := ex_s3
  simp [planCells, List.range, List.range.loop, h0, h3, strokeCells]
theorem plan_shape {X : World} {base : Nat} {v : Value} (h : X.ownsRow base 34 3 v 6 (planCells 2 exL 6 exC 6)) : ∃ g cap, v = .slice (some ⟨g, 0, none⟩) 6 cap ∧ base ≤ g ∧ g < X.heap.size ∧ X.cell? ⟨g, 0, none⟩ = some (.int .i64 1) ∧ X.cell? ⟨g, 1, none⟩ = some (.int .i64 0) ∧ X.cell? ⟨g, 2, none⟩ = some (.int .i64 3) ∧ X.cell? ⟨g, 9, none⟩ = some (.int .i64 4) ∧ X.cell? ⟨g, 10, none⟩ = some (.int .i64 3) ∧ X.cell? ⟨g, 11, none⟩ = some (.int .i64 3) := by
  rcases h.2 with ⟨_, h0⟩ | ⟨g, cap, cur, rfl, hg, hh, _⟩
  · cases h0
  · have hc := h.cellAt
    rw [ex_cells] at hc
    exact ⟨g, cap, rfl, hg, h.lt g rfl |>.2, (hc 0 (by omega)).trans rfl, (hc 1 (by omega)).trans rfl, (hc 2 (by omega)).trans rfl, (hc 9 (by omega)).trans rfl, (hc 10 (by omega)).trans rfl, (hc 11 (by omega)).trans rfl⟩
theorem one_shape {X : World} {base : Nat} {v : Value} {a : Int} (h : X.ownsRow base 3 1 v 1 [.int .i64 a]) : ∃ g cap, v = .slice (some ⟨g, 0, none⟩) 1 cap ∧ base ≤ g ∧ g < X.heap.size ∧ X.cell? ⟨g, 0, none⟩ = some (.int .i64 a) := by
  rcases h.2 with ⟨_, h0⟩ | ⟨g, cap, cur, rfl, hg, hh, _⟩
  · cases h0
  · exact ⟨g, cap, rfl, hg, h.lt g rfl |>.2, (h.cellAt 0 (by omega)).trans rfl⟩
theorem none_shape {X : World} {base : Nat} {v : Value} (h : X.ownsRow base 3 1 v 0 []) : ∃ A cap, v = .slice A 0 cap := by
  rcases h.2 with ⟨rfl, h0⟩ | ⟨g, cap, cur, rfl, hg, hh, _⟩
  · exact ⟨_, _, rfl⟩
  · exact ⟨_, _, rfl⟩
theorem words_cell {X : World} {g : Nat} {v : Int} (h : X.cell? ⟨g, 0, none⟩ = some (.int .i64 v)) : Words X (some ⟨g, 0, none⟩) 1 (fun _ => v) :=
  ⟨fun _ => ⟨g, 0, rfl, cell_lt h, fun i hi j hj => by obtain rfl : i = 0 := (by omega); obtain rfl : j = 0 := (by omega); exact h⟩, by omega⟩
theorem below_cell {X Y : World} {b o : Nat} {v : Value} (hb : Below X.heap.size X Y) (h : X.cell? ⟨b, o, none⟩ = some v) : Y.cell? ⟨b, o, none⟩ = some v := (hb.cell (p := ⟨b, o, none⟩) (cell_lt h)).trans h
theorem len4 {A : Option Addr} {n c : Nat} : True := trivial


set_option maxRecDepth 100000 in
set_option maxHeartbeats 40000000 in
theorem lives_any (w : World) : Calls Try.prog 10 #[] w fun e w' => e = .returned (.bool true) ∧ Below w.heap.size w w' := by
  have hM := ex_isM w
  go_enter Try.func10, Try.ntmps10
  go_wp2_with (go_at_call 11; (with_reducible refine (plan_any (hM.below (by (repeat' (first | (with_reducible exact Below.refl _ _) | (with_reducible assumption) | (with_reducible refine below_drewN ?_ _) | (with_reducible refine Below.alloc ?_ ?_ _) | (with_reducible refine Below.drew ?_) | (with_reducible refine Below.setCell ?_ ?_ _) | go_size)))) (Below.refl _ _)).mono ?_); rintro e w1 ⟨v, rfl, hv, hb⟩; obtain ⟨g, cap, rfl, hg, hg1, c0, c1, c2, c3, c4, c5⟩ := plan_shape hv; clear hv)
  have hM1 := (hM.below (w' := w1) (hb.mono (by simp only [World.size_alloc]; omega)))
  have hB1 : Below w.heap.size w w1 := thru hb (by (repeat' (first | (with_reducible exact Below.refl _ _) | (with_reducible assumption) | (with_reducible refine below_drewN ?_ _) | (with_reducible refine Below.alloc ?_ ?_ _) | (with_reducible refine Below.drew ?_) | (with_reducible refine Below.setCell ?_ ?_ _) | go_size)))
  have m0 : w1.cell? ⟨w.heap.size + 1 + 1, 0, none⟩ = some (.string ⟨#[]⟩) := below_cell hb (by simp [go_sem])
  have m1 : w1.cell? ⟨w.heap.size + 1 + 1, 1, none⟩ = some (.int .i64 0) := below_cell hb (by simp [go_sem])
  have m2 : w1.cell? ⟨w.heap.size + 1 + 1, 2, none⟩ = some (.int .i64 0) := below_cell hb (by simp [go_sem])
  have m3 : w1.cell? ⟨w.heap.size + 1 + 1, 3, none⟩ = some (.int .i64 0) := below_cell hb (by simp [go_sem])
  have m4 : w1.cell? ⟨w.heap.size + 1 + 1, 4, none⟩ = some (.slice (some ⟨w.heap.size, 0, none⟩) 2 2) := below_cell hb (by simp [go_sem])
  have m5 : w1.cell? ⟨w.heap.size + 1 + 1, 5, none⟩ = some (.slice (some ⟨w.heap.size + 1, 0, none⟩) 6 6) := below_cell hb (by simp [go_sem])
  have hs1 := hB1.size
  have hb2 : w.heap.size + 1 + 1 < w1.heap.size := cell_lt m0
  clear hM hb hg
  generalize w.heap.size + 1 + 1 = b2 at m0 m1 m2 m3 m4 m5 hb2 ⊢
  go_cut [3, 4] (fun x ok w2 => ok = .bool true ∧ ∃ bx gx cx, x = .pointer (some ⟨bx, 0, none⟩) ∧ Below w1.heap.size w1 w2 ∧ w2.cell? ⟨bx, 0, none⟩ = some (.int .i64 3) ∧ w2.cell? ⟨bx, 1, none⟩ = some (.slice (some ⟨gx, 0, none⟩) 1 cx) ∧ w2.cell? ⟨bx, 2, none⟩ = some (.int .i64 (-1)) ∧ w2.cell? ⟨gx, 0, none⟩ = some (.int .i64 11))
  case first =>
    go_region_held3 (fun w' => w'.cell? ⟨b2, 0, none⟩ = some (.string ⟨#[]⟩) ∧ w'.cell? ⟨b2, 1, none⟩ = some (.int .i64 0) ∧ w'.cell? ⟨b2, 2, none⟩ = some (.int .i64 0) ∧ w'.cell? ⟨b2, 3, none⟩ = some (.int .i64 0) ∧ w'.cell? ⟨b2, 4, none⟩ = some (.slice (some ⟨w.heap.size, 0, none⟩) 2 2) ∧ w'.cell? ⟨b2, 5, none⟩ = some (.slice (some ⟨w.heap.size + 1, 0, none⟩) 6 6) ∧ w'.cell? ⟨g, 0, none⟩ = some (.int .i64 1) ∧ w'.cell? ⟨g, 1, none⟩ = some (.int .i64 0) ∧ w'.cell? ⟨g, 2, none⟩ = some (.int .i64 3) ∧ w'.cell? ⟨g, 9, none⟩ = some (.int .i64 4) ∧ w'.cell? ⟨g, 10, none⟩ = some (.int .i64 3) ∧ w'.cell? ⟨g, 11, none⟩ = some (.int .i64 3)) (first | assumption | (simp [go_sem]; done) | (simp [go_sem, *]; done)) (first | (go_at_call 16; (with_reducible refine (app_any (L := exL) (TF := fun _ => 9) ?_ ex_good ?_ (Words.none_ _) (Below.refl _ _) _ _ _).mono ?_); exact hM1.below (by (repeat' (first | (with_reducible exact Below.refl _ _) | (with_reducible assumption) | (with_reducible refine below_drewN ?_ _) | (with_reducible refine Below.alloc ?_ ?_ _) | (with_reducible refine Below.drew ?_) | (with_reducible refine Below.setCell ?_ ?_ _) | go_size))); exact words_cell (by (first | assumption | (simp [go_sem]; done) | (simp [go_sem, *]; done))); rw [ex_a0 0]; rintro e wc ⟨PV, rfl, hp, hb'⟩; obtain ⟨gx, cx, rfl, hgx, hgx1, hpx⟩ := one_shape hp; clear hp; have m0' : wc.cell? ⟨b2, 0, none⟩ = some (.string ⟨#[]⟩) := below_cell hb' (by (first | assumption | (simp [go_sem]; done) | (simp [go_sem, *]; done))); have m1' : wc.cell? ⟨b2, 1, none⟩ = some (.int .i64 0) := below_cell hb' (by (first | assumption | (simp [go_sem]; done) | (simp [go_sem, *]; done))); have m2' : wc.cell? ⟨b2, 2, none⟩ = some (.int .i64 0) := below_cell hb' (by (first | assumption | (simp [go_sem]; done) | (simp [go_sem, *]; done))); have m3' : wc.cell? ⟨b2, 3, none⟩ = some (.int .i64 0) := below_cell hb' (by (first | assumption | (simp [go_sem]; done) | (simp [go_sem, *]; done))); have m4' : wc.cell? ⟨b2, 4, none⟩ = some (.slice (some ⟨w.heap.size, 0, none⟩) 2 2) := below_cell hb' (by (first | assumption | (simp [go_sem]; done) | (simp [go_sem, *]; done))); have m5' : wc.cell? ⟨b2, 5, none⟩ = some (.slice (some ⟨w.heap.size + 1, 0, none⟩) 6 6) := below_cell hb' (by (first | assumption | (simp [go_sem]; done) | (simp [go_sem, *]; done))); have c0' : wc.cell? ⟨g, 0, none⟩ = some (.int .i64 1) := below_cell hb' (by (first | assumption | (simp [go_sem]; done) | (simp [go_sem, *]; done))); have c1' : wc.cell? ⟨g, 1, none⟩ = some (.int .i64 0) := below_cell hb' (by (first | assumption | (simp [go_sem]; done) | (simp [go_sem, *]; done))); have c2' : wc.cell? ⟨g, 2, none⟩ = some (.int .i64 3) := below_cell hb' (by (first | assumption | (simp [go_sem]; done) | (simp [go_sem, *]; done))); have c3' : wc.cell? ⟨g, 9, none⟩ = some (.int .i64 4) := below_cell hb' (by (first | assumption | (simp [go_sem]; done) | (simp [go_sem, *]; done))); have c4' : wc.cell? ⟨g, 10, none⟩ = some (.int .i64 3) := below_cell hb' (by (first | assumption | (simp [go_sem]; done) | (simp [go_sem, *]; done))); have c5' : wc.cell? ⟨g, 11, none⟩ = some (.int .i64 3) := below_cell hb' (by (first | assumption | (simp [go_sem]; done) | (simp [go_sem, *]; done))); have hgw : g < wc.heap.size := cell_lt c0'; have hbw : b2 < wc.heap.size := cell_lt m0'; obtain ⟨hcb, hfb⟩ := bcell hb'; (try have ec0 := fun o => hcb (w1.heap.size) o (by simp only [World.size_alloc, World.size_setCell, World.size_drew, size_drewN]; omega)); (try have ef0 := fun o => hfb (w1.heap.size) o (by simp only [World.size_alloc, World.size_setCell, World.size_drew, size_drewN]; omega)); (try have el0 : w1.heap.size < wc.heap.size := Nat.lt_of_lt_of_le (by simp only [World.size_alloc, World.size_setCell, World.size_drew, size_drewN]; omega) hb'.size); (try have ec1 := fun o => hcb (w1.heap.size + 1) o (by simp only [World.size_alloc, World.size_setCell, World.size_drew, size_drewN]; omega)); (try have ef1 := fun o => hfb (w1.heap.size + 1) o (by simp only [World.size_alloc, World.size_setCell, World.size_drew, size_drewN]; omega)); (try have el1 : w1.heap.size + 1 < wc.heap.size := Nat.lt_of_lt_of_le (by simp only [World.size_alloc, World.size_setCell, World.size_drew, size_drewN]; omega) hb'.size); clear hcb hfb))
    all_goals
      go_wp2_with fail
      go_meet
      have hT := thru hb' (show Below w1.heap.size w1 _ by (repeat' (first | (with_reducible exact Below.refl _ _) | (with_reducible assumption) | (with_reducible refine below_drewN ?_ _) | (with_reducible refine Below.alloc ?_ ?_ _) | (with_reducible refine Below.drew ?_) | (with_reducible refine Below.setCell ?_ ?_ _) | go_size)))
      have hTs := hT.size
      clear m0 m1 m2 m3 m4 m5 c0 c1 c2 c3 c4 c5 m0' m1' m2' m3' m4' m5' c0' c1' c2' c3' c4' c5' hM1 hB1 hT
      simp only [World.size_alloc, World.size_setCell, World.size_drew, size_drewN] at hgx
      have n0 : gx ≠ w1.heap.size := by omega
      have n0' := n0.symm
      (try have n1 : gx ≠ w1.heap.size + 1 := by omega)
      (try have n1' := n1.symm)
      refine ⟨rfl, _, gx, cx, rfl, ?_, ?_, ?_, ?_, ?_⟩
      · have hT := thru hb' (show Below w1.heap.size w1 _ by (repeat' (first | (with_reducible exact Below.refl _ _) | (with_reducible assumption) | (with_reducible refine below_drewN ?_ _) | (with_reducible refine Below.alloc ?_ ?_ _) | (with_reducible refine Below.drew ?_) | (with_reducible refine Below.setCell ?_ ?_ _) | go_size))); (repeat' (first | (with_reducible exact Below.refl _ _) | (with_reducible assumption) | (with_reducible refine below_drewN ?_ _) | (with_reducible refine Below.alloc ?_ ?_ _) | (with_reducible refine Below.drew ?_) | (with_reducible refine Below.setCell ?_ ?_ _) | go_size))
      all_goals clear hb'
      all_goals (first | assumption | (simp [go_sem]; done) | (simp [go_sem, *]; done))
  case rest =>
    obtain ⟨w2, rfl⟩ : ∃ z, z = wc := ⟨_, rfl⟩
    obtain ⟨rfl, bx, gx, cx, rfl, hb', px, p1, p2, p3⟩ := hcut
    replace m0 := below_cell hb' m0
    replace m1 := below_cell hb' m1
    replace m2 := below_cell hb' m2
    replace m3 := below_cell hb' m3
    replace m4 := below_cell hb' m4
    replace m5 := below_cell hb' m5
    replace c0 := below_cell hb' c0
    replace c1 := below_cell hb' c1
    replace c2 := below_cell hb' c2
    replace c3 := below_cell hb' c3
    replace c4 := below_cell hb' c4
    replace c5 := below_cell hb' c5
    have hB2 := thru hb' hB1
    have hM2 := hM1.below hb'
    clear hb' hB1 hM1 hg1 hb2 hs1
    have hg2 : g < w2.heap.size := cell_lt c0
    have hb2 : b2 < w2.heap.size := cell_lt m0
    have hs2 := hB2.size
    go_wp2_with fail
    go_cut [5, 6] (fun y ok w3 => ok = .bool true ∧ ∃ by_ A cy, y = .pointer (some ⟨by_, 0, none⟩) ∧ Below w2.heap.size w2 w3 ∧ w3.cell? ⟨by_, 0, none⟩ = some (.int .i64 6) ∧ w3.cell? ⟨by_, 1, none⟩ = some (.slice A 0 cy) ∧ w3.cell? ⟨by_, 2, none⟩ = some (.int .i64 1) ∧ w3.cell? ⟨by_, 3, none⟩ = some (.int .i64 9))
    case first =>
      go_region_held3 (fun w' => w'.cell? ⟨b2, 0, none⟩ = some (.string ⟨#[]⟩) ∧ w'.cell? ⟨b2, 1, none⟩ = some (.int .i64 0) ∧ w'.cell? ⟨b2, 2, none⟩ = some (.int .i64 0) ∧ w'.cell? ⟨b2, 3, none⟩ = some (.int .i64 0) ∧ w'.cell? ⟨b2, 4, none⟩ = some (.slice (some ⟨w.heap.size, 0, none⟩) 2 2) ∧ w'.cell? ⟨b2, 5, none⟩ = some (.slice (some ⟨w.heap.size + 1, 0, none⟩) 6 6) ∧ w'.cell? ⟨g, 0, none⟩ = some (.int .i64 1) ∧ w'.cell? ⟨g, 1, none⟩ = some (.int .i64 0) ∧ w'.cell? ⟨g, 2, none⟩ = some (.int .i64 3) ∧ w'.cell? ⟨g, 9, none⟩ = some (.int .i64 4) ∧ w'.cell? ⟨g, 10, none⟩ = some (.int .i64 3) ∧ w'.cell? ⟨g, 11, none⟩ = some (.int .i64 3)) (first | assumption | (simp [go_sem]; done) | (simp [go_sem, *]; done)) (first | (go_at_call 16; (with_reducible refine (app_any (L := exL) (TF := fun _ => 9) ?_ ex_good ?_ (Words.none_ _) (Below.refl _ _) _ _ _).mono ?_); exact hM2.below (by (repeat' (first | (with_reducible exact Below.refl _ _) | (with_reducible assumption) | (with_reducible refine below_drewN ?_ _) | (with_reducible refine Below.alloc ?_ ?_ _) | (with_reducible refine Below.drew ?_) | (with_reducible refine Below.setCell ?_ ?_ _) | go_size))); exact words_cell (by (first | assumption | (simp [go_sem]; done) | (simp [go_sem, *]; done))); rw [ex_a3 0]; rintro e wc ⟨PV, rfl, hp, hb'⟩; obtain ⟨A, cy, rfl⟩ := none_shape hp; clear hp; have m0' : wc.cell? ⟨b2, 0, none⟩ = some (.string ⟨#[]⟩) := below_cell hb' (by (first | assumption | (simp [go_sem]; done) | (simp [go_sem, *]; done))); have m1' : wc.cell? ⟨b2, 1, none⟩ = some (.int .i64 0) := below_cell hb' (by (first | assumption | (simp [go_sem]; done) | (simp [go_sem, *]; done))); have m2' : wc.cell? ⟨b2, 2, none⟩ = some (.int .i64 0) := below_cell hb' (by (first | assumption | (simp [go_sem]; done) | (simp [go_sem, *]; done))); have m3' : wc.cell? ⟨b2, 3, none⟩ = some (.int .i64 0) := below_cell hb' (by (first | assumption | (simp [go_sem]; done) | (simp [go_sem, *]; done))); have m4' : wc.cell? ⟨b2, 4, none⟩ = some (.slice (some ⟨w.heap.size, 0, none⟩) 2 2) := below_cell hb' (by (first | assumption | (simp [go_sem]; done) | (simp [go_sem, *]; done))); have m5' : wc.cell? ⟨b2, 5, none⟩ = some (.slice (some ⟨w.heap.size + 1, 0, none⟩) 6 6) := below_cell hb' (by (first | assumption | (simp [go_sem]; done) | (simp [go_sem, *]; done))); have c0' : wc.cell? ⟨g, 0, none⟩ = some (.int .i64 1) := below_cell hb' (by (first | assumption | (simp [go_sem]; done) | (simp [go_sem, *]; done))); have c1' : wc.cell? ⟨g, 1, none⟩ = some (.int .i64 0) := below_cell hb' (by (first | assumption | (simp [go_sem]; done) | (simp [go_sem, *]; done))); have c2' : wc.cell? ⟨g, 2, none⟩ = some (.int .i64 3) := below_cell hb' (by (first | assumption | (simp [go_sem]; done) | (simp [go_sem, *]; done))); have c3' : wc.cell? ⟨g, 9, none⟩ = some (.int .i64 4) := below_cell hb' (by (first | assumption | (simp [go_sem]; done) | (simp [go_sem, *]; done))); have c4' : wc.cell? ⟨g, 10, none⟩ = some (.int .i64 3) := below_cell hb' (by (first | assumption | (simp [go_sem]; done) | (simp [go_sem, *]; done))); have c5' : wc.cell? ⟨g, 11, none⟩ = some (.int .i64 3) := below_cell hb' (by (first | assumption | (simp [go_sem]; done) | (simp [go_sem, *]; done))); have hgw : g < wc.heap.size := cell_lt c0'; have hbw : b2 < wc.heap.size := cell_lt m0'; obtain ⟨hcb, hfb⟩ := bcell hb'; (try have ec0 := fun o => hcb (w2.heap.size) o (by simp only [World.size_alloc, World.size_setCell, World.size_drew, size_drewN]; omega)); (try have ef0 := fun o => hfb (w2.heap.size) o (by simp only [World.size_alloc, World.size_setCell, World.size_drew, size_drewN]; omega)); (try have el0 : w2.heap.size < wc.heap.size := Nat.lt_of_lt_of_le (by simp only [World.size_alloc, World.size_setCell, World.size_drew, size_drewN]; omega) hb'.size); (try have ec1 := fun o => hcb (w2.heap.size + 1) o (by simp only [World.size_alloc, World.size_setCell, World.size_drew, size_drewN]; omega)); (try have ef1 := fun o => hfb (w2.heap.size + 1) o (by simp only [World.size_alloc, World.size_setCell, World.size_drew, size_drewN]; omega)); (try have el1 : w2.heap.size + 1 < wc.heap.size := Nat.lt_of_lt_of_le (by simp only [World.size_alloc, World.size_setCell, World.size_drew, size_drewN]; omega) hb'.size); clear hcb hfb))
      all_goals
        go_wp2_with fail
        go_meet
        have hT := thru hb' (show Below w2.heap.size w2 _ by (repeat' (first | (with_reducible exact Below.refl _ _) | (with_reducible assumption) | (with_reducible refine below_drewN ?_ _) | (with_reducible refine Below.alloc ?_ ?_ _) | (with_reducible refine Below.drew ?_) | (with_reducible refine Below.setCell ?_ ?_ _) | go_size)))
        have hTs := hT.size
        clear px p1 p2 p3 m0 m1 m2 m3 m4 m5 c0 c1 c2 c3 c4 c5 m0' m1' m2' m3' m4' m5' c0' c1' c2' c3' c4' c5' hM2 hB2 hT
        refine ⟨rfl, _, A, cy, rfl, ?_, ?_, ?_, ?_, ?_⟩
        · have hT := thru hb' (show Below w2.heap.size w2 _ by (repeat' (first | (with_reducible exact Below.refl _ _) | (with_reducible assumption) | (with_reducible refine below_drewN ?_ _) | (with_reducible refine Below.alloc ?_ ?_ _) | (with_reducible refine Below.drew ?_) | (with_reducible refine Below.setCell ?_ ?_ _) | go_size))); (repeat' (first | (with_reducible exact Below.refl _ _) | (with_reducible assumption) | (with_reducible refine below_drewN ?_ _) | (with_reducible refine Below.alloc ?_ ?_ _) | (with_reducible refine Below.drew ?_) | (with_reducible refine Below.setCell ?_ ?_ _) | go_size))
        all_goals clear hb'
        all_goals (first | assumption | (simp [go_sem]; done) | (simp [go_sem, *]; done))
    case rest =>
      obtain ⟨w3, rfl⟩ : ∃ z, z = wc := ⟨_, rfl⟩
      obtain ⟨rfl, by_, A, cy, rfl, hb', qy, q1, q2, q3⟩ := hcut
      replace c0 := below_cell hb' c0
      replace c1 := below_cell hb' c1
      replace c2 := below_cell hb' c2
      replace c3 := below_cell hb' c3
      replace c4 := below_cell hb' c4
      replace c5 := below_cell hb' c5
      replace px := below_cell hb' px
      replace p1 := below_cell hb' p1
      replace p2 := below_cell hb' p2
      replace p3 := below_cell hb' p3
      have hB3 := thru hb' hB2
      clear hb' hB2 hM2 hg2 hb2 hs2 m0 m1 m2 m3 m4 m5
      have hq := eql34
      have n1 : neqB 1 0 3 1 0 3 = false := rfl
      have n2 : neqB 4 3 3 4 3 3 = false := rfl
      go_wp2_with fail
      go_ret
      exact ⟨rfl, hB3⟩

end Go.Proofs.Ytjiidjcehhdnbaa

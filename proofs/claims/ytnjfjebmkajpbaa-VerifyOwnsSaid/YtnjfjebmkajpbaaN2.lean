/- Contracts: the document's examples. -/
import Derived.Test.YtnjfjebmkajpbaaN1
namespace Go.Proofs.Ytnjfjebmkajpbaa
open Go.ChangeShapes Go.WideShapes Go.ChangeAt Go.RowKit
set_option linter.unusedVariables false
set_option linter.unusedSimpArgs false

theorem lits_none (W : World) : IsLits W none ([] : List LitT).length (fun _ _ => .int .i64 0) [] := ⟨rfl, fun h => absurd h (Nat.lt_irrefl _), fun i h => absurd h (Nat.not_lt_zero _)⟩
theorem ex_depths (W : World) (q : Option Addr) (hC : IsCode W q 5 (codeOf exD)) : Calls Try.prog 9 #[.agg #[.string ⟨#[120]⟩, .int .i64 0, .int .i64 0, .int .i64 0, .slice none 0 0, .slice q 5 5], .int .i64 0] W (fun e w' => (∃ p c, e = .returned (.tuple #[.slice p 5 c, .int .i64 0]) ∧ Row w' p 5 1 (fun i _ => .int .i64 (listF [0, 1, 0, 1, 1] i))) ∧ Below W.heap.size W w') := by
  refine (depths9_any 5 0 5 none q nX 0 0 0 0 [] (lits_none W) (Below.refl W.heap.size W) (by simp) (by omega) (by omega) (by omega) (by decide) (fun i h => absurd h (Nat.not_lt_zero _)) hC).mono (fun e w' h => ?_)
  obtain ⟨hb, ⟨hg, v, F, he, ⟨p, c, rfl, h1, h2, hr, h3⟩, hs, hc⟩ | ⟨hg, _⟩⟩ := h
  · refine ⟨⟨p, c, he, fun hn => ?_⟩, hb⟩
    obtain ⟨b, off, e1, hlt, hcell⟩ := hr hn
    exact ⟨b, off, e1, hlt, fun i hi j hj => (hcell i hi j hj).trans (by show some (Value.int .i64 (F i)) = some (Value.int .i64 (listF [0, 1, 0, 1, 1] i)); rw [sameD mayD hs hc soundDD closedDD hi])⟩
  · exact absurd goodDD hg
theorem ex_good (W : World) (q : Option Addr) (hC : IsCode W q 2 (codeOf exA)) : Calls Try.prog 12 #[.agg #[.string ⟨#[120]⟩, .int .i64 0, .int .i64 0, .int .i64 0, .slice none 0 0, .slice q 2 2], .int .i64 0] W (fun e w' => e = .returned (.int .i64 0) ∧ Below W.heap.size W w') := by
  refine (check_any 2 0 2 none q nX 0 0 0 0 [] (lits_none W) (Below.refl W.heap.size W) (by simp) (by omega) (by omega) (by omega) (by decide) (fun i h => absurd h (Nat.not_lt_zero _)) hC).mono (fun e w' h => ?_)
  obtain ⟨hb, ⟨hg, he⟩ | ⟨hg, _⟩⟩ := h
  · exact ⟨he, hb⟩
  · exact absurd goodA hg
theorem ex_bad (l : List Ins) (hl : ¬ GoodM nX 0 0 0 0 [] 2 (codeOf l)) (W : World) (q : Option Addr) (hC : IsCode W q 2 (codeOf l)) : Calls Try.prog 12 #[.agg #[.string ⟨#[120]⟩, .int .i64 0, .int .i64 0, .int .i64 0, .slice none 0 0, .slice q 2 2], .int .i64 0] W (fun e w' => e = .returned (.int .i64 19) ∧ Below W.heap.size W w') := by
  refine (check_any 2 0 2 none q nX 0 0 0 0 [] (lits_none W) (Below.refl W.heap.size W) (by simp) (by omega) (by omega) (by omega) (by decide) (fun i h => absurd h (Nat.not_lt_zero _)) hC).mono (fun e w' h => ?_)
  obtain ⟨hb, ⟨hg, _⟩ | ⟨hg, he⟩⟩ := h
  · exact absurd hg hl
  · exact ⟨he, hb⟩
theorem code_kept {W W' : World} {q : Option Addr} {n : Nat} {C : Nat → Ins} (h : IsCode W q n C) (hb : Below W.heap.size W W') : IsCode W' q n C := Row.below h hb
theorem code_cells {W : World} {g : Nat} {n : Nat} {C : Nat → Ins} (hg : g < W.heap.size) (h : ∀ k, k < n → W.cell? ⟨g, 0 + k * 3 + 0, none⟩ = some (.int .i64 (C k).op) ∧ W.cell? ⟨g, 0 + k * 3 + 1, none⟩ = some (.int .i64 (C k).a) ∧ W.cell? ⟨g, 0 + k * 3 + 2, none⟩ = some (.int .i64 (C k).b)) : IsCode W (some ⟨g, 0, none⟩) n C := fun _ => ⟨g, 0, rfl, hg, fun i hi j hj => by
  obtain ⟨a, b, c⟩ := h i hi
  rcases (show j = 0 ∨ j = 1 ∨ j = 2 by omega) with rfl | rfl | rfl
  · exact a
  · exact b
  · exact c⟩

set_option maxHeartbeats 16000000 in
set_option maxRecDepth 100000 in
theorem lives_any (w : World) : Calls Try.prog 8 #[] w fun e w' => e = .returned (.bool true) ∧ Below w.heap.size w w' := by
  obtain ⟨W, hW⟩ : ∃ W, W = ((((((((w.alloc (.cells #[.int .i64 2, .int .i64 0, .int .i64 0, .int .i64 20, .int .i64 0, .int .i64 0] 37)).alloc (.cells #[.string ⟨#[120]⟩, .int .i64 0, .int .i64 0, .int .i64 0, .slice none 0 0, .slice (some ⟨w.heap.size, 0, none⟩) 2 2] 25)).alloc (.cells #[.int .i64 12, .int .i64 0, .int .i64 0, .int .i64 20, .int .i64 0, .int .i64 0] 37)).alloc (.cells #[.string ⟨#[120]⟩, .int .i64 0, .int .i64 0, .int .i64 0, .slice none 0 0, .slice (some ⟨w.heap.size + 1 + 1, 0, none⟩) 2 2] 25)).alloc (.cells #[.int .i64 6, .int .i64 0, .int .i64 0, .int .i64 20, .int .i64 0, .int .i64 0] 37)).alloc (.cells #[.string ⟨#[120]⟩, .int .i64 0, .int .i64 0, .int .i64 0, .slice none 0 0, .slice (some ⟨w.heap.size + 1 + 1 + 1 + 1, 0, none⟩) 2 2] 25)).alloc (.cells #[.int .i64 18, .int .i64 0, .int .i64 0, .int .i64 16, .int .i64 4, .int .i64 0, .int .i64 2, .int .i64 0, .int .i64 0, .int .i64 19, .int .i64 0, .int .i64 0, .int .i64 20, .int .i64 0, .int .i64 0] 37)).alloc (.cells #[.string ⟨#[120]⟩, .int .i64 0, .int .i64 0, .int .i64 0, .slice none 0 0, .slice (some ⟨w.heap.size + 1 + 1 + 1 + 1 + 1 + 1, 0, none⟩) 5 5] 25)) := ⟨_, rfl⟩
  have hBW : Below w.heap.size w W := by rw [hW]; (repeat' (first | (with_reducible exact Below.refl _ _) | (with_reducible assumption) | (with_reducible refine below_drewN ?_ _) | (with_reducible refine Below.alloc ?_ ?_ _) | (with_reducible refine Below.drew ?_) | (with_reducible refine Below.setCell ?_ ?_ _) | go_size))
  have aA0 : W.cell? ⟨w.heap.size + 1, 0, none⟩ = some (.string ⟨#[120]⟩) := by rw [hW]; simp [go_sem]
  have aA1 : W.cell? ⟨w.heap.size + 1, 1, none⟩ = some (.int .i64 0) := by rw [hW]; simp [go_sem]
  have aA2 : W.cell? ⟨w.heap.size + 1, 2, none⟩ = some (.int .i64 0) := by rw [hW]; simp [go_sem]
  have aA3 : W.cell? ⟨w.heap.size + 1, 3, none⟩ = some (.int .i64 0) := by rw [hW]; simp [go_sem]
  have aA4 : W.cell? ⟨w.heap.size + 1, 4, none⟩ = some (.slice none 0 0) := by rw [hW]; simp [go_sem]
  have aA5 : W.cell? ⟨w.heap.size + 1, 5, none⟩ = some (.slice (some ⟨w.heap.size, 0, none⟩) 2 2) := by rw [hW]; simp [go_sem]
  have aB0 : W.cell? ⟨w.heap.size + 1 + 1 + 1, 0, none⟩ = some (.string ⟨#[120]⟩) := by rw [hW]; simp [go_sem]
  have aB1 : W.cell? ⟨w.heap.size + 1 + 1 + 1, 1, none⟩ = some (.int .i64 0) := by rw [hW]; simp [go_sem]
  have aB2 : W.cell? ⟨w.heap.size + 1 + 1 + 1, 2, none⟩ = some (.int .i64 0) := by rw [hW]; simp [go_sem]
  have aB3 : W.cell? ⟨w.heap.size + 1 + 1 + 1, 3, none⟩ = some (.int .i64 0) := by rw [hW]; simp [go_sem]
  have aB4 : W.cell? ⟨w.heap.size + 1 + 1 + 1, 4, none⟩ = some (.slice none 0 0) := by rw [hW]; simp [go_sem]
  have aB5 : W.cell? ⟨w.heap.size + 1 + 1 + 1, 5, none⟩ = some (.slice (some ⟨w.heap.size + 1 + 1, 0, none⟩) 2 2) := by rw [hW]; simp [go_sem]
  have aC0 : W.cell? ⟨w.heap.size + 1 + 1 + 1 + 1 + 1, 0, none⟩ = some (.string ⟨#[120]⟩) := by rw [hW]; simp [go_sem]
  have aC1 : W.cell? ⟨w.heap.size + 1 + 1 + 1 + 1 + 1, 1, none⟩ = some (.int .i64 0) := by rw [hW]; simp [go_sem]
  have aC2 : W.cell? ⟨w.heap.size + 1 + 1 + 1 + 1 + 1, 2, none⟩ = some (.int .i64 0) := by rw [hW]; simp [go_sem]
  have aC3 : W.cell? ⟨w.heap.size + 1 + 1 + 1 + 1 + 1, 3, none⟩ = some (.int .i64 0) := by rw [hW]; simp [go_sem]
  have aC4 : W.cell? ⟨w.heap.size + 1 + 1 + 1 + 1 + 1, 4, none⟩ = some (.slice none 0 0) := by rw [hW]; simp [go_sem]
  have aC5 : W.cell? ⟨w.heap.size + 1 + 1 + 1 + 1 + 1, 5, none⟩ = some (.slice (some ⟨w.heap.size + 1 + 1 + 1 + 1, 0, none⟩) 2 2) := by rw [hW]; simp [go_sem]
  have azA : w.heap.size + 1 < W.heap.size := by rw [hW]; go_size
  have azB : w.heap.size + 1 + 1 + 1 < W.heap.size := by rw [hW]; go_size
  have azC : w.heap.size + 1 + 1 + 1 + 1 + 1 < W.heap.size := by rw [hW]; go_size
  have akA : IsCode W (some ⟨w.heap.size, 0, none⟩) 2 (codeOf exA) := code_cells (by rw [hW]; go_size) (fun k hk => by
    rw [hW]
    rcases lt2 hk with rfl | rfl <;> exact ⟨by simp [go_sem, codeOf, exA], by simp [go_sem, codeOf, exA], by simp [go_sem, codeOf, exA]⟩)
  have akB : IsCode W (some ⟨w.heap.size + 1 + 1, 0, none⟩) 2 (codeOf exB) := code_cells (by rw [hW]; go_size) (fun k hk => by
    rw [hW]
    rcases lt2 hk with rfl | rfl <;> exact ⟨by simp [go_sem, codeOf, exB], by simp [go_sem, codeOf, exB], by simp [go_sem, codeOf, exB]⟩)
  have akC : IsCode W (some ⟨w.heap.size + 1 + 1 + 1 + 1, 0, none⟩) 2 (codeOf exC) := code_cells (by rw [hW]; go_size) (fun k hk => by
    rw [hW]
    rcases lt2 hk with rfl | rfl <;> exact ⟨by simp [go_sem, codeOf, exC], by simp [go_sem, codeOf, exC], by simp [go_sem, codeOf, exC]⟩)
  have akD : IsCode W (some ⟨w.heap.size + 1 + 1 + 1 + 1 + 1 + 1, 0, none⟩) 5 (codeOf exD) := code_cells (by rw [hW]; go_size) (fun k hk => by
    rw [hW]
    rcases lt5 hk with rfl | rfl | rfl | rfl | rfl <;> exact ⟨by simp [go_sem, codeOf, exD], by simp [go_sem, codeOf, exD], by simp [go_sem, codeOf, exD]⟩)
  go_enter Try.func8, Try.ntmps8
  go_wp2_with fail
  rw [← hW]
  clear hW
  (with_reducible refine (ex_depths _ _ akD).mono ?_)
  rintro e w3 ⟨⟨p, c, rfl, hrow⟩, hb3⟩
  have bA0 : w3.cell? ⟨w.heap.size + 1, 0, none⟩ = some (.string ⟨#[120]⟩) := (hb3.cell (p := ⟨w.heap.size + 1, 0, none⟩) azA).trans aA0
  have bA1 : w3.cell? ⟨w.heap.size + 1, 1, none⟩ = some (.int .i64 0) := (hb3.cell (p := ⟨w.heap.size + 1, 1, none⟩) azA).trans aA1
  have bA2 : w3.cell? ⟨w.heap.size + 1, 2, none⟩ = some (.int .i64 0) := (hb3.cell (p := ⟨w.heap.size + 1, 2, none⟩) azA).trans aA2
  have bA3 : w3.cell? ⟨w.heap.size + 1, 3, none⟩ = some (.int .i64 0) := (hb3.cell (p := ⟨w.heap.size + 1, 3, none⟩) azA).trans aA3
  have bA4 : w3.cell? ⟨w.heap.size + 1, 4, none⟩ = some (.slice none 0 0) := (hb3.cell (p := ⟨w.heap.size + 1, 4, none⟩) azA).trans aA4
  have bA5 : w3.cell? ⟨w.heap.size + 1, 5, none⟩ = some (.slice (some ⟨w.heap.size, 0, none⟩) 2 2) := (hb3.cell (p := ⟨w.heap.size + 1, 5, none⟩) azA).trans aA5
  have bB0 : w3.cell? ⟨w.heap.size + 1 + 1 + 1, 0, none⟩ = some (.string ⟨#[120]⟩) := (hb3.cell (p := ⟨w.heap.size + 1 + 1 + 1, 0, none⟩) azB).trans aB0
  have bB1 : w3.cell? ⟨w.heap.size + 1 + 1 + 1, 1, none⟩ = some (.int .i64 0) := (hb3.cell (p := ⟨w.heap.size + 1 + 1 + 1, 1, none⟩) azB).trans aB1
  have bB2 : w3.cell? ⟨w.heap.size + 1 + 1 + 1, 2, none⟩ = some (.int .i64 0) := (hb3.cell (p := ⟨w.heap.size + 1 + 1 + 1, 2, none⟩) azB).trans aB2
  have bB3 : w3.cell? ⟨w.heap.size + 1 + 1 + 1, 3, none⟩ = some (.int .i64 0) := (hb3.cell (p := ⟨w.heap.size + 1 + 1 + 1, 3, none⟩) azB).trans aB3
  have bB4 : w3.cell? ⟨w.heap.size + 1 + 1 + 1, 4, none⟩ = some (.slice none 0 0) := (hb3.cell (p := ⟨w.heap.size + 1 + 1 + 1, 4, none⟩) azB).trans aB4
  have bB5 : w3.cell? ⟨w.heap.size + 1 + 1 + 1, 5, none⟩ = some (.slice (some ⟨w.heap.size + 1 + 1, 0, none⟩) 2 2) := (hb3.cell (p := ⟨w.heap.size + 1 + 1 + 1, 5, none⟩) azB).trans aB5
  have bC0 : w3.cell? ⟨w.heap.size + 1 + 1 + 1 + 1 + 1, 0, none⟩ = some (.string ⟨#[120]⟩) := (hb3.cell (p := ⟨w.heap.size + 1 + 1 + 1 + 1 + 1, 0, none⟩) azC).trans aC0
  have bC1 : w3.cell? ⟨w.heap.size + 1 + 1 + 1 + 1 + 1, 1, none⟩ = some (.int .i64 0) := (hb3.cell (p := ⟨w.heap.size + 1 + 1 + 1 + 1 + 1, 1, none⟩) azC).trans aC1
  have bC2 : w3.cell? ⟨w.heap.size + 1 + 1 + 1 + 1 + 1, 2, none⟩ = some (.int .i64 0) := (hb3.cell (p := ⟨w.heap.size + 1 + 1 + 1 + 1 + 1, 2, none⟩) azC).trans aC2
  have bC3 : w3.cell? ⟨w.heap.size + 1 + 1 + 1 + 1 + 1, 3, none⟩ = some (.int .i64 0) := (hb3.cell (p := ⟨w.heap.size + 1 + 1 + 1 + 1 + 1, 3, none⟩) azC).trans aC3
  have bC4 : w3.cell? ⟨w.heap.size + 1 + 1 + 1 + 1 + 1, 4, none⟩ = some (.slice none 0 0) := (hb3.cell (p := ⟨w.heap.size + 1 + 1 + 1 + 1 + 1, 4, none⟩) azC).trans aC4
  have bC5 : w3.cell? ⟨w.heap.size + 1 + 1 + 1 + 1 + 1, 5, none⟩ = some (.slice (some ⟨w.heap.size + 1 + 1 + 1 + 1, 0, none⟩) 2 2) := (hb3.cell (p := ⟨w.heap.size + 1 + 1 + 1 + 1 + 1, 5, none⟩) azC).trans aC5
  have bzA : w.heap.size + 1 < w3.heap.size := Nat.lt_of_lt_of_le azA hb3.size
  have bzB : w.heap.size + 1 + 1 + 1 < w3.heap.size := Nat.lt_of_lt_of_le azB hb3.size
  have bzC : w.heap.size + 1 + 1 + 1 + 1 + 1 < w3.heap.size := Nat.lt_of_lt_of_le azC hb3.size
  have bkA : IsCode w3 (some ⟨w.heap.size, 0, none⟩) 2 (codeOf exA) := code_kept akA hb3
  have bkB : IsCode w3 (some ⟨w.heap.size + 1 + 1, 0, none⟩) 2 (codeOf exB) := code_kept akB hb3
  have bkC : IsCode w3 (some ⟨w.heap.size + 1 + 1 + 1 + 1, 0, none⟩) 2 (codeOf exC) := code_kept akC hb3
  clear aA0 aA1 aA2 aA3 aA4 aA5 aB0 aB1 aB2 aB3 aB4 aB5 aC0 aC1 aC2 aC3 aC4 aC5
  have HR := Lib.hid hrow
  clear hrow
  have hbz : w3.heap.size < (w3.alloc (.cells #[.int .i64 0, .int .i64 1, .int .i64 0, .int .i64 1, .int .i64 1] 3)).heap.size := by go_size
  have hbA := (Below.refl w3.heap.size w3).alloc (Nat.le_refl _) (.cells #[.int .i64 0, .int .i64 1, .int .i64 0, .int .i64 1, .int .i64 1] 3)
  have hrB : Row (w3.alloc (.cells #[.int .i64 0, .int .i64 1, .int .i64 0, .int .i64 1, .int .i64 1] 3)) (some ⟨w3.heap.size, 0, none⟩) 5 1 (fun i _ => .int .i64 (listF [0, 1, 0, 1, 1] i)) := fun _ => ⟨w3.heap.size, 0, rfl, hbz, fun i hi j hj => by
    obtain rfl : j = 0 := by omega
    rcases lt5 hi with rfl | rfl | rfl | rfl | rfl <;> simp [go_sem, listF]⟩
  have HRB := Lib.hid hrB
  clear hrB
  go_wp2_with fail
  (with_reducible refine (same_any (Row.below HR.out hbA) HRB.out (by omega) (Below.refl _ _)).mono ?_)
  rintro e w4 ⟨rfl, hb4'⟩
  have hb4 := hbA.trans (hb4'.mono (by go_size))
  clear hb4' hbA hbz
  have cA0 : w4.cell? ⟨w.heap.size + 1, 0, none⟩ = some (.string ⟨#[120]⟩) := (hb4.cell (p := ⟨w.heap.size + 1, 0, none⟩) bzA).trans bA0
  have cA1 : w4.cell? ⟨w.heap.size + 1, 1, none⟩ = some (.int .i64 0) := (hb4.cell (p := ⟨w.heap.size + 1, 1, none⟩) bzA).trans bA1
  have cA2 : w4.cell? ⟨w.heap.size + 1, 2, none⟩ = some (.int .i64 0) := (hb4.cell (p := ⟨w.heap.size + 1, 2, none⟩) bzA).trans bA2
  have cA3 : w4.cell? ⟨w.heap.size + 1, 3, none⟩ = some (.int .i64 0) := (hb4.cell (p := ⟨w.heap.size + 1, 3, none⟩) bzA).trans bA3
  have cA4 : w4.cell? ⟨w.heap.size + 1, 4, none⟩ = some (.slice none 0 0) := (hb4.cell (p := ⟨w.heap.size + 1, 4, none⟩) bzA).trans bA4
  have cA5 : w4.cell? ⟨w.heap.size + 1, 5, none⟩ = some (.slice (some ⟨w.heap.size, 0, none⟩) 2 2) := (hb4.cell (p := ⟨w.heap.size + 1, 5, none⟩) bzA).trans bA5
  have cB0 : w4.cell? ⟨w.heap.size + 1 + 1 + 1, 0, none⟩ = some (.string ⟨#[120]⟩) := (hb4.cell (p := ⟨w.heap.size + 1 + 1 + 1, 0, none⟩) bzB).trans bB0
  have cB1 : w4.cell? ⟨w.heap.size + 1 + 1 + 1, 1, none⟩ = some (.int .i64 0) := (hb4.cell (p := ⟨w.heap.size + 1 + 1 + 1, 1, none⟩) bzB).trans bB1
  have cB2 : w4.cell? ⟨w.heap.size + 1 + 1 + 1, 2, none⟩ = some (.int .i64 0) := (hb4.cell (p := ⟨w.heap.size + 1 + 1 + 1, 2, none⟩) bzB).trans bB2
  have cB3 : w4.cell? ⟨w.heap.size + 1 + 1 + 1, 3, none⟩ = some (.int .i64 0) := (hb4.cell (p := ⟨w.heap.size + 1 + 1 + 1, 3, none⟩) bzB).trans bB3
  have cB4 : w4.cell? ⟨w.heap.size + 1 + 1 + 1, 4, none⟩ = some (.slice none 0 0) := (hb4.cell (p := ⟨w.heap.size + 1 + 1 + 1, 4, none⟩) bzB).trans bB4
  have cB5 : w4.cell? ⟨w.heap.size + 1 + 1 + 1, 5, none⟩ = some (.slice (some ⟨w.heap.size + 1 + 1, 0, none⟩) 2 2) := (hb4.cell (p := ⟨w.heap.size + 1 + 1 + 1, 5, none⟩) bzB).trans bB5
  have cC0 : w4.cell? ⟨w.heap.size + 1 + 1 + 1 + 1 + 1, 0, none⟩ = some (.string ⟨#[120]⟩) := (hb4.cell (p := ⟨w.heap.size + 1 + 1 + 1 + 1 + 1, 0, none⟩) bzC).trans bC0
  have cC1 : w4.cell? ⟨w.heap.size + 1 + 1 + 1 + 1 + 1, 1, none⟩ = some (.int .i64 0) := (hb4.cell (p := ⟨w.heap.size + 1 + 1 + 1 + 1 + 1, 1, none⟩) bzC).trans bC1
  have cC2 : w4.cell? ⟨w.heap.size + 1 + 1 + 1 + 1 + 1, 2, none⟩ = some (.int .i64 0) := (hb4.cell (p := ⟨w.heap.size + 1 + 1 + 1 + 1 + 1, 2, none⟩) bzC).trans bC2
  have cC3 : w4.cell? ⟨w.heap.size + 1 + 1 + 1 + 1 + 1, 3, none⟩ = some (.int .i64 0) := (hb4.cell (p := ⟨w.heap.size + 1 + 1 + 1 + 1 + 1, 3, none⟩) bzC).trans bC3
  have cC4 : w4.cell? ⟨w.heap.size + 1 + 1 + 1 + 1 + 1, 4, none⟩ = some (.slice none 0 0) := (hb4.cell (p := ⟨w.heap.size + 1 + 1 + 1 + 1 + 1, 4, none⟩) bzC).trans bC4
  have cC5 : w4.cell? ⟨w.heap.size + 1 + 1 + 1 + 1 + 1, 5, none⟩ = some (.slice (some ⟨w.heap.size + 1 + 1 + 1 + 1, 0, none⟩) 2 2) := (hb4.cell (p := ⟨w.heap.size + 1 + 1 + 1 + 1 + 1, 5, none⟩) bzC).trans bC5
  have czA : w.heap.size + 1 < w4.heap.size := Nat.lt_of_lt_of_le bzA hb4.size
  have czB : w.heap.size + 1 + 1 + 1 < w4.heap.size := Nat.lt_of_lt_of_le bzB hb4.size
  have czC : w.heap.size + 1 + 1 + 1 + 1 + 1 < w4.heap.size := Nat.lt_of_lt_of_le bzC hb4.size
  have ckA : IsCode w4 (some ⟨w.heap.size, 0, none⟩) 2 (codeOf exA) := code_kept bkA hb4
  have ckB : IsCode w4 (some ⟨w.heap.size + 1 + 1, 0, none⟩) 2 (codeOf exB) := code_kept bkB hb4
  have ckC : IsCode w4 (some ⟨w.heap.size + 1 + 1 + 1 + 1, 0, none⟩) 2 (codeOf exC) := code_kept bkC hb4
  clear bA0 bA1 bA2 bA3 bA4 bA5 bB0 bB1 bB2 bB3 bB4 bB5 bC0 bC1 bC2 bC3 bC4 bC5
  go_wp2_with fail
  (with_reducible refine (ex_good _ _ ckA).mono ?_)
  rintro e w5 ⟨rfl, hb5⟩
  have dA0 : w5.cell? ⟨w.heap.size + 1, 0, none⟩ = some (.string ⟨#[120]⟩) := (hb5.cell (p := ⟨w.heap.size + 1, 0, none⟩) czA).trans cA0
  have dA1 : w5.cell? ⟨w.heap.size + 1, 1, none⟩ = some (.int .i64 0) := (hb5.cell (p := ⟨w.heap.size + 1, 1, none⟩) czA).trans cA1
  have dA2 : w5.cell? ⟨w.heap.size + 1, 2, none⟩ = some (.int .i64 0) := (hb5.cell (p := ⟨w.heap.size + 1, 2, none⟩) czA).trans cA2
  have dA3 : w5.cell? ⟨w.heap.size + 1, 3, none⟩ = some (.int .i64 0) := (hb5.cell (p := ⟨w.heap.size + 1, 3, none⟩) czA).trans cA3
  have dA4 : w5.cell? ⟨w.heap.size + 1, 4, none⟩ = some (.slice none 0 0) := (hb5.cell (p := ⟨w.heap.size + 1, 4, none⟩) czA).trans cA4
  have dA5 : w5.cell? ⟨w.heap.size + 1, 5, none⟩ = some (.slice (some ⟨w.heap.size, 0, none⟩) 2 2) := (hb5.cell (p := ⟨w.heap.size + 1, 5, none⟩) czA).trans cA5
  have dB0 : w5.cell? ⟨w.heap.size + 1 + 1 + 1, 0, none⟩ = some (.string ⟨#[120]⟩) := (hb5.cell (p := ⟨w.heap.size + 1 + 1 + 1, 0, none⟩) czB).trans cB0
  have dB1 : w5.cell? ⟨w.heap.size + 1 + 1 + 1, 1, none⟩ = some (.int .i64 0) := (hb5.cell (p := ⟨w.heap.size + 1 + 1 + 1, 1, none⟩) czB).trans cB1
  have dB2 : w5.cell? ⟨w.heap.size + 1 + 1 + 1, 2, none⟩ = some (.int .i64 0) := (hb5.cell (p := ⟨w.heap.size + 1 + 1 + 1, 2, none⟩) czB).trans cB2
  have dB3 : w5.cell? ⟨w.heap.size + 1 + 1 + 1, 3, none⟩ = some (.int .i64 0) := (hb5.cell (p := ⟨w.heap.size + 1 + 1 + 1, 3, none⟩) czB).trans cB3
  have dB4 : w5.cell? ⟨w.heap.size + 1 + 1 + 1, 4, none⟩ = some (.slice none 0 0) := (hb5.cell (p := ⟨w.heap.size + 1 + 1 + 1, 4, none⟩) czB).trans cB4
  have dB5 : w5.cell? ⟨w.heap.size + 1 + 1 + 1, 5, none⟩ = some (.slice (some ⟨w.heap.size + 1 + 1, 0, none⟩) 2 2) := (hb5.cell (p := ⟨w.heap.size + 1 + 1 + 1, 5, none⟩) czB).trans cB5
  have dC0 : w5.cell? ⟨w.heap.size + 1 + 1 + 1 + 1 + 1, 0, none⟩ = some (.string ⟨#[120]⟩) := (hb5.cell (p := ⟨w.heap.size + 1 + 1 + 1 + 1 + 1, 0, none⟩) czC).trans cC0
  have dC1 : w5.cell? ⟨w.heap.size + 1 + 1 + 1 + 1 + 1, 1, none⟩ = some (.int .i64 0) := (hb5.cell (p := ⟨w.heap.size + 1 + 1 + 1 + 1 + 1, 1, none⟩) czC).trans cC1
  have dC2 : w5.cell? ⟨w.heap.size + 1 + 1 + 1 + 1 + 1, 2, none⟩ = some (.int .i64 0) := (hb5.cell (p := ⟨w.heap.size + 1 + 1 + 1 + 1 + 1, 2, none⟩) czC).trans cC2
  have dC3 : w5.cell? ⟨w.heap.size + 1 + 1 + 1 + 1 + 1, 3, none⟩ = some (.int .i64 0) := (hb5.cell (p := ⟨w.heap.size + 1 + 1 + 1 + 1 + 1, 3, none⟩) czC).trans cC3
  have dC4 : w5.cell? ⟨w.heap.size + 1 + 1 + 1 + 1 + 1, 4, none⟩ = some (.slice none 0 0) := (hb5.cell (p := ⟨w.heap.size + 1 + 1 + 1 + 1 + 1, 4, none⟩) czC).trans cC4
  have dC5 : w5.cell? ⟨w.heap.size + 1 + 1 + 1 + 1 + 1, 5, none⟩ = some (.slice (some ⟨w.heap.size + 1 + 1 + 1 + 1, 0, none⟩) 2 2) := (hb5.cell (p := ⟨w.heap.size + 1 + 1 + 1 + 1 + 1, 5, none⟩) czC).trans cC5
  have dzA : w.heap.size + 1 < w5.heap.size := Nat.lt_of_lt_of_le czA hb5.size
  have dzB : w.heap.size + 1 + 1 + 1 < w5.heap.size := Nat.lt_of_lt_of_le czB hb5.size
  have dzC : w.heap.size + 1 + 1 + 1 + 1 + 1 < w5.heap.size := Nat.lt_of_lt_of_le czC hb5.size
  have dkA : IsCode w5 (some ⟨w.heap.size, 0, none⟩) 2 (codeOf exA) := code_kept ckA hb5
  have dkB : IsCode w5 (some ⟨w.heap.size + 1 + 1, 0, none⟩) 2 (codeOf exB) := code_kept ckB hb5
  have dkC : IsCode w5 (some ⟨w.heap.size + 1 + 1 + 1 + 1, 0, none⟩) 2 (codeOf exC) := code_kept ckC hb5
  clear cA0 cA1 cA2 cA3 cA4 cA5 cB0 cB1 cB2 cB3 cB4 cB5 cC0 cC1 cC2 cC3 cC4 cC5
  go_wp2_with fail
  (with_reducible refine (ex_bad _ badB _ _ dkB).mono ?_)
  rintro e w6 ⟨rfl, hb6⟩
  have fA0 : w6.cell? ⟨w.heap.size + 1, 0, none⟩ = some (.string ⟨#[120]⟩) := (hb6.cell (p := ⟨w.heap.size + 1, 0, none⟩) dzA).trans dA0
  have fA1 : w6.cell? ⟨w.heap.size + 1, 1, none⟩ = some (.int .i64 0) := (hb6.cell (p := ⟨w.heap.size + 1, 1, none⟩) dzA).trans dA1
  have fA2 : w6.cell? ⟨w.heap.size + 1, 2, none⟩ = some (.int .i64 0) := (hb6.cell (p := ⟨w.heap.size + 1, 2, none⟩) dzA).trans dA2
  have fA3 : w6.cell? ⟨w.heap.size + 1, 3, none⟩ = some (.int .i64 0) := (hb6.cell (p := ⟨w.heap.size + 1, 3, none⟩) dzA).trans dA3
  have fA4 : w6.cell? ⟨w.heap.size + 1, 4, none⟩ = some (.slice none 0 0) := (hb6.cell (p := ⟨w.heap.size + 1, 4, none⟩) dzA).trans dA4
  have fA5 : w6.cell? ⟨w.heap.size + 1, 5, none⟩ = some (.slice (some ⟨w.heap.size, 0, none⟩) 2 2) := (hb6.cell (p := ⟨w.heap.size + 1, 5, none⟩) dzA).trans dA5
  have fB0 : w6.cell? ⟨w.heap.size + 1 + 1 + 1, 0, none⟩ = some (.string ⟨#[120]⟩) := (hb6.cell (p := ⟨w.heap.size + 1 + 1 + 1, 0, none⟩) dzB).trans dB0
  have fB1 : w6.cell? ⟨w.heap.size + 1 + 1 + 1, 1, none⟩ = some (.int .i64 0) := (hb6.cell (p := ⟨w.heap.size + 1 + 1 + 1, 1, none⟩) dzB).trans dB1
  have fB2 : w6.cell? ⟨w.heap.size + 1 + 1 + 1, 2, none⟩ = some (.int .i64 0) := (hb6.cell (p := ⟨w.heap.size + 1 + 1 + 1, 2, none⟩) dzB).trans dB2
  have fB3 : w6.cell? ⟨w.heap.size + 1 + 1 + 1, 3, none⟩ = some (.int .i64 0) := (hb6.cell (p := ⟨w.heap.size + 1 + 1 + 1, 3, none⟩) dzB).trans dB3
  have fB4 : w6.cell? ⟨w.heap.size + 1 + 1 + 1, 4, none⟩ = some (.slice none 0 0) := (hb6.cell (p := ⟨w.heap.size + 1 + 1 + 1, 4, none⟩) dzB).trans dB4
  have fB5 : w6.cell? ⟨w.heap.size + 1 + 1 + 1, 5, none⟩ = some (.slice (some ⟨w.heap.size + 1 + 1, 0, none⟩) 2 2) := (hb6.cell (p := ⟨w.heap.size + 1 + 1 + 1, 5, none⟩) dzB).trans dB5
  have fC0 : w6.cell? ⟨w.heap.size + 1 + 1 + 1 + 1 + 1, 0, none⟩ = some (.string ⟨#[120]⟩) := (hb6.cell (p := ⟨w.heap.size + 1 + 1 + 1 + 1 + 1, 0, none⟩) dzC).trans dC0
  have fC1 : w6.cell? ⟨w.heap.size + 1 + 1 + 1 + 1 + 1, 1, none⟩ = some (.int .i64 0) := (hb6.cell (p := ⟨w.heap.size + 1 + 1 + 1 + 1 + 1, 1, none⟩) dzC).trans dC1
  have fC2 : w6.cell? ⟨w.heap.size + 1 + 1 + 1 + 1 + 1, 2, none⟩ = some (.int .i64 0) := (hb6.cell (p := ⟨w.heap.size + 1 + 1 + 1 + 1 + 1, 2, none⟩) dzC).trans dC2
  have fC3 : w6.cell? ⟨w.heap.size + 1 + 1 + 1 + 1 + 1, 3, none⟩ = some (.int .i64 0) := (hb6.cell (p := ⟨w.heap.size + 1 + 1 + 1 + 1 + 1, 3, none⟩) dzC).trans dC3
  have fC4 : w6.cell? ⟨w.heap.size + 1 + 1 + 1 + 1 + 1, 4, none⟩ = some (.slice none 0 0) := (hb6.cell (p := ⟨w.heap.size + 1 + 1 + 1 + 1 + 1, 4, none⟩) dzC).trans dC4
  have fC5 : w6.cell? ⟨w.heap.size + 1 + 1 + 1 + 1 + 1, 5, none⟩ = some (.slice (some ⟨w.heap.size + 1 + 1 + 1 + 1, 0, none⟩) 2 2) := (hb6.cell (p := ⟨w.heap.size + 1 + 1 + 1 + 1 + 1, 5, none⟩) dzC).trans dC5
  have fzA : w.heap.size + 1 < w6.heap.size := Nat.lt_of_lt_of_le dzA hb6.size
  have fzB : w.heap.size + 1 + 1 + 1 < w6.heap.size := Nat.lt_of_lt_of_le dzB hb6.size
  have fzC : w.heap.size + 1 + 1 + 1 + 1 + 1 < w6.heap.size := Nat.lt_of_lt_of_le dzC hb6.size
  have fkA : IsCode w6 (some ⟨w.heap.size, 0, none⟩) 2 (codeOf exA) := code_kept dkA hb6
  have fkB : IsCode w6 (some ⟨w.heap.size + 1 + 1, 0, none⟩) 2 (codeOf exB) := code_kept dkB hb6
  have fkC : IsCode w6 (some ⟨w.heap.size + 1 + 1 + 1 + 1, 0, none⟩) 2 (codeOf exC) := code_kept dkC hb6
  clear dA0 dA1 dA2 dA3 dA4 dA5 dB0 dB1 dB2 dB3 dB4 dB5 dC0 dC1 dC2 dC3 dC4 dC5
  go_wp2_with fail
  (with_reducible refine (ex_bad _ badC _ _ fkC).mono ?_)
  rintro e w7 ⟨rfl, hb7⟩
  go_wp2_with fail
  go_ret
  have v3 := hBW.trans (hb3.mono hBW.size)
  have v4 := v3.trans (hb4.mono v3.size)
  have v5 := v4.trans (hb5.mono v4.size)
  have v6 := v5.trans (hb6.mono v5.size)
  exact ⟨rfl, v6.trans (hb7.mono v6.size)⟩
end Go.Proofs.Ytnjfjebmkajpbaa

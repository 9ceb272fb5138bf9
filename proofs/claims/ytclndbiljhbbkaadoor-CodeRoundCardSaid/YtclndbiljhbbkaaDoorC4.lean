/- Chapter 09: the document's examples. -/
import Derived.Test.YtclndbiljhbbkaaDoorC3
import Derived.Laws.BytesArg
namespace Go.Proofs.YtclndbiljhbbkaaDoor
open Go.ChangeShapes Go.WideShapes Go.ChangeAt Go.RowKit Go.Deep Go.Joins
set_option linter.unusedVariables false
set_option linter.unusedSimpArgs false
theorem bints_conv {w : World} {base : Nat} {v : Value} {zs : List Int} (h : BInts w base v zs) : (Go.convert 24 9 v).run Tryd.prog w = .ok (.string (strOfNums zs)) w := by
  have h2 := h
  unfold BInts at h2
  rcases h2.2 with ⟨rfl, h0⟩ | ⟨g, cap, cur, rfl, hg, hh, h1, h3, _⟩
  · obtain rfl : zs = [] := List.eq_nil_of_length_eq_zero h0
    exact run_convert_bytes_nil w 24 5 Tryd.underlying24 Tryd.underlying5 0 0 9 Tryd.underlying9
  · refine run_convert_bytes_arg w 24 5 Tryd.underlying24 Tryd.underlying5 g 0 zs.length cap zs rfl (fun i hi => ?_) 9 Tryd.underlying9
    have := World.ownsRow.cellAt h2 i (by simpa using hi)
    rw [Nat.zero_add, this, List.getElem?_map, List.getElem?_eq_getElem hi, List.getD_eq_getElem?_getD, List.getElem?_eq_getElem hi]
    rfl
def listC (l : List Ins) (k : Nat) : Ins := l.getD k ⟨0, 0, 0⟩
def exL : List Ins := [⟨6, 3, 0⟩, ⟨14, 4, 1⟩]
theorem ex_put : putV (listC exL) 2 = ([6, 3, 0, 14, 4, 1], 0) := by decide
theorem ex_to : toV 16 300 = (⟨16, 44, 1⟩, 0) := by decide
theorem ex_target : targetV ⟨16, 44, 1⟩ = 300 := by decide
theorem ex_grows : growsV ⟨14, 4, 1⟩ = -1 := by decide
theorem ex_may : mayB ⟨6, 3, 0⟩ = true := by decide
theorem ex_text : textV (listC exL) 2 = [108, 105, 116, 32, 51, 10, 115, 101, 110, 100, 32, 52, 32, 49, 10] := by decide +kernel
theorem code_kept {W W' : World} {q : Option Addr} {n : Nat} {C : Nat → Ins} (h : IsCode W q n C) (hb : Below W.heap.size W W') : IsCode W' q n C := Row.below h hb
theorem code_cells {W : World} {g : Nat} {n : Nat} {C : Nat → Ins} (hg : g < W.heap.size) (h : ∀ k, k < n → W.cell? ⟨g, 0 + k * 3 + 0, none⟩ = some (.int .i64 (C k).op) ∧ W.cell? ⟨g, 0 + k * 3 + 1, none⟩ = some (.int .i64 (C k).a) ∧ W.cell? ⟨g, 0 + k * 3 + 2, none⟩ = some (.int .i64 (C k).b)) : IsCode W (some ⟨g, 0, none⟩) n C := fun _ => ⟨g, 0, rfl, hg, fun i hi j hj => by
  obtain ⟨a, b, c⟩ := h i hi
  rcases (show j = 0 ∨ j = 1 ∨ j = 2 by omega) with rfl | rfl | rfl
  · exact a
  · exact b
  · exact c⟩
theorem below_cell {w w' : World} (hb : Below w.heap.size w w') {p : Addr} {v : Value} (h : w.cell? p = some v) : w'.cell? p = some v := (hb.cell (cell_lt h)).trans h
theorem lt2 {k : Nat} (h : k < 2) : k = 0 ∨ k = 1 := by omega
set_option maxRecDepth 100000 in
set_option maxHeartbeats 16000000 in
theorem few_any {p : Option Addr} {n c : Nat} (w : World) (hn : n ≤ c) (hc : c ≤ 9223372036854775807) : Calls Tryd.prog 10 #[.slice p n c] w fun e w' => e = .returned (.slice p (if 450 < n then 450 else n) c) ∧ w' = w := by
  by_cases h : 450 < n
  · have d0 : decide (450 < n) = true := decide_eq_true h
    have d1 : decide ((450 : Int) < (n : Int)) = true := decide_eq_true (by omega)
    have d2 : (450 : Int) ≤ (c : Int) := by omega
    have d3 : 450 ≤ c := by omega
    go_enter Tryd.func10, Tryd.ntmps10
    go_wp2_with fail
    go_ret
    exact ⟨rfl, rfl⟩
  · have d0 : decide (450 < n) = false := decide_eq_false h
    have d1 : decide ((450 : Int) < (n : Int)) = false := decide_eq_false (by omega)
    go_enter Tryd.func10, Tryd.ntmps10
    go_wp2_with fail
    go_ret
    exact ⟨rfl, rfl⟩
set_option maxRecDepth 100000 in
set_option maxHeartbeats 16000000 in
theorem lives_any (w : World) (hT : TabsB w) : Calls Tryd.prog 13 #[] w fun e w' => e = .returned (.bool true) ∧ Below w.heap.size w w' := by
  obtain ⟨W, hW⟩ : ∃ W, W = w.alloc (.cells #[.int .i64 6, .int .i64 3, .int .i64 0, .int .i64 14, .int .i64 4, .int .i64 1] 31) := ⟨_, rfl⟩
  have hBW : Below w.heap.size w W := by rw [hW]; (repeat' (first | (with_reducible exact Below.refl _ _) | (with_reducible assumption) | (with_reducible refine below_drewN ?_ _) | (with_reducible refine Below.alloc ?_ ?_ _) | (with_reducible refine Below.drew ?_) | (with_reducible refine Below.setCell ?_ ?_ _) | go_size))
  have hz : w.heap.size < W.heap.size := by rw [hW]; go_size
  have HC : Hid (IsCode W (some ⟨w.heap.size, 0, none⟩) 2 (listC exL)) := Lib.hid (code_cells hz (fun k hk => by
    rw [hW]
    rcases lt2 hk with rfl | rfl <;> exact ⟨by simp [go_sem, listC, exL], by simp [go_sem, listC, exL], by simp [go_sem, listC, exL]⟩))
  have HT := Lib.hid hT
  clear hT
  go_enter Tryd.func13, Tryd.ntmps13
  go_wp2_with fail
  rw [← hW]
  clear hW
  (with_reducible refine (put_any (c := 2) HC.out).mono ?_)
  rintro e w2 ⟨v, rfl, hby, hb2⟩
  rw [ex_put] at hby ⊢
  have hB2 := hBW.trans (hb2.mono hBW.size)
  have HBY := Lib.hid hby
  have HC2 : Hid (IsCode w2 (some ⟨w.heap.size, 0, none⟩) 2 (listC exL)) := Lib.hid (code_kept HC.out hb2)
  clear hby
  go_wp2_with fail
  (with_reducible refine (to_any 16 300 _).mono ?_)
  rintro e w3 ⟨rfl, hb3⟩
  rw [ex_to]
  have hB3 := hB2.trans (hb3.mono hB2.size)
  have HBY3 := Lib.hid (HBY.out.below hb3)
  have HC3 : Hid (IsCode w3 (some ⟨w.heap.size, 0, none⟩) 2 (listC exL)) := Lib.hid (code_kept HC2.out hb3)
  dsimp only
  go_upto_region 4 with fail
  have hA := (Below.refl w3.heap.size w3).alloc (Nat.le_refl _) (.cells #[.int .i64 16, .int .i64 44, .int .i64 1] 31)
  obtain ⟨w4, hw4⟩ : ∃ w4, w4 = w3.alloc (.cells #[.int .i64 16, .int .i64 44, .int .i64 1] 31) := ⟨_, rfl⟩
  rw [← hw4] at hA ⊢
  have e0 : w4.cell? ⟨w3.heap.size, 0, none⟩ = some (.int .i64 16) := by rw [hw4]; simp [go_sem]
  have e1 : w4.cell? ⟨w3.heap.size, 1, none⟩ = some (.int .i64 44) := by rw [hw4]; simp [go_sem]
  have e2 : w4.cell? ⟨w3.heap.size, 2, none⟩ = some (.int .i64 1) := by rw [hw4]; simp [go_sem]
  have hz3 : w3.heap.size < w4.heap.size := cell_lt e0
  have hB4 := hB3.trans (hA.mono hB3.size)
  have cv := bints_conv (HBY3.out.below hA)
  have HC4 : Hid (IsCode w4 (some ⟨w.heap.size, 0, none⟩) 2 (listC exL)) := Lib.hid (code_kept HC3.out hA)
  obtain ⟨sv, hsv⟩ : ∃ sv, strOfNums [6, 3, 0, 14, 4, 1] = sv := ⟨_, rfl⟩
  rw [hsv] at cv
  have cu := run_convert_bytes_arg (P := Tryd.prog) (w4.alloc (.cells #[.int .u8 6, .int .u8 3, .int .u8 0, .int .u8 14, .int .u8 4, .int .u8 1] 5)) 24 5 Tryd.underlying24 Tryd.underlying5 w4.heap.size 0 6 6 [6, 3, 0, 14, 4, 1] rfl (fun i hi => by
    rcases (show i = 0 ∨ i = 1 ∨ i = 2 ∨ i = 3 ∨ i = 4 ∨ i = 5 by omega) with rfl | rfl | rfl | rfl | rfl | rfl <;> simp [go_sem]) 9 Tryd.underlying9
  rw [hsv] at cu
  obtain ⟨b5, o5, e5, hlt5, c0, c1, c2⟩ := HC4.out.at_ (Below.refl _ _) (show 0 < 2 by omega)
  obtain ⟨b6, o6, e6, hlt6, c3, c4, c5⟩ := HC4.out.at_ (Below.refl _ _) (show 1 < 2 by omega)
  cases e5
  cases e6
  replace c0 : w4.cell? ⟨w.heap.size, 0, none⟩ = some (.int .i64 6) := c0
  replace c1 : w4.cell? ⟨w.heap.size, 1, none⟩ = some (.int .i64 3) := c1
  replace c2 : w4.cell? ⟨w.heap.size, 2, none⟩ = some (.int .i64 0) := c2
  replace c3 : w4.cell? ⟨w.heap.size, 3, none⟩ = some (.int .i64 14) := c3
  replace c4 : w4.cell? ⟨w.heap.size, 4, none⟩ = some (.int .i64 4) := c4
  replace c5 : w4.cell? ⟨w.heap.size, 5, none⟩ = some (.int .i64 1) := c5
  clear hw4 hA hsv hb2 hb3 HC HC2 HC3 HBY HBY3 hlt5 hlt6
  go_wp2_with fail
  have hA := (Below.refl w4.heap.size w4).alloc (Nat.le_refl _) (.cells #[.int .u8 6, .int .u8 3, .int .u8 0, .int .u8 14, .int .u8 4, .int .u8 1] 5)
  (with_reducible refine (target_any 16 44 1 _ (by omega) (by omega) (by omega) (by omega)).mono ?_)
  rintro e w5 ⟨rfl, hb5'⟩
  rw [ex_target]
  have hb5 := hA.trans (hb5'.mono hA.size)
  have hB5 := hB4.trans (hb5.mono hB4.size)
  clear hb5' cv cu
  go_wp2_with fail
  (with_reducible refine (text_any (n := 2) (c := 2) (code_kept HC4.out hb5) (HT.out.below hB5) (by omega) (fun i hi => ?_)).mono ?_)
  · rcases lt2 hi with rfl | rfl <;> (unfold InIns; decide)
  rintro e w6 ⟨rfl, hb6'⟩
  rw [ex_text]
  have hb6 := hb5.trans (hb6'.mono hb5.size)
  have hB6 := hB4.trans (hb6.mono hB4.size)
  replace c0 := below_cell hb6 c0
  replace c1 := below_cell hb6 c1
  replace c2 := below_cell hb6 c2
  replace c3 := below_cell hb6 c3
  replace c4 := below_cell hb6 c4
  replace c5 := below_cell hb6 c5
  dsimp only [strV]
  go_wp2_with fail
  (with_reducible refine (grows_any 14 4 1 _ (by omega) (by omega)).mono ?_)
  rintro e w7 ⟨rfl, hb7⟩
  rw [ex_grows]
  have hB7 := hB6.trans (hb7.mono hB6.size)
  replace c0 := below_cell hb7 c0
  replace c1 := below_cell hb7 c1
  replace c2 := below_cell hb7 c2
  go_wp2_with fail
  (with_reducible refine (may_any 6 3 0 _).mono ?_)
  rintro e w8 ⟨rfl, hb8⟩
  rw [ex_may]
  have hB8 := hB7.trans (hb8.mono hB7.size)
  go_wp2_with fail
  go_ret
  exact ⟨rfl, hB8⟩
end Go.Proofs.YtclndbiljhbbkaaDoor

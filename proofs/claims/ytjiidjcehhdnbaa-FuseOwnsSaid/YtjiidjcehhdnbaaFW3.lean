/- Contracts of package fuse: the plan of a method. -/
import Derived.Test.YtjiidjcehhdnbaaFW2
namespace Go.Proofs.Ytjiidjcehhdnbaa
open Go.ChangeShapes Go.WideShapes Go.ChangeAt Go.RowKit
set_option linter.unusedVariables false
set_option linter.unusedSimpArgs false
section
variable {w0 w : World} {LA : Option Addr} {ln lc : Nat} {CA : Option Addr} {cn cc : Nat} {L : Nat → LitR} {C : Nat → InsR} {s : ByteArray} {x0 x1 x2 : Int}

theorem isOp_in (p : Int) (h : isOp ln L cn C p = true) : 0 ≤ p ∧ p < cn := by
  unfold isOp at h
  by_cases k : 0 ≤ p ∧ p < cn
  · exact k
  · rw [show insAt cn C p = noIns from if_neg k] at h; cases h
theorem stroke_any (hM : IsM w0 LA ln CA cn L C) (hB : Below w0.heap.size w0 w) (p : Int) :
    Calls Try.prog 19 #[.agg #[.string s, .int .i64 x0, .int .i64 x1, .int .i64 x2, .slice LA ln lc, .slice CA cn cc], .int .i64 p] w fun e w' => e = .returned (.agg #[.int .i64 (strokeV ln L cn C p).1, .int .i64 (strokeV ln L cn C p).2.1, .int .i64 (strokeV ln L cn C p).2.2]) ∧ Below w.heap.size w w' := by
  cases O : isOp ln L cn C p
  · exact stroke_none hM hB p O
  · obtain ⟨h0, h1⟩ := isOp_in p O
    have hn := hM.cn_le
    have h0 : -1 ≤ p := by omega
    have h1 : p ≤ 1000 := by omega
    cases g1 : (insAt cn C (p + 1)).op == 10
    · cases T : letterV (selV ln L cn C (p + 1) 0)
      · cases O1 : isOp ln L cn C (p + 1)
        · exact stroke_one_a hM hB p h0 h1 O g1 T O1
        · cases g3 : (selV ln L cn C (p + 2) 1).toList == [43]
          · cases g4 : (selV ln L cn C (p + 2) 1).toList == [45]
            · cases g5 : (selV ln L cn C (p + 2) 1).toList == [42]
              · cases g6 : (selV ln L cn C (p + 2) 1).toList == [60]
                · cases g7 : (selV ln L cn C (p + 2) 1).toList == [61]
                  · exact stroke_else_a hM hB p h0 h1 O g1 T O1 g3 g4 g5 g6 g7
                  · cases g8 : (insAt cn C (p + 3)).op == 17
                    · exact stroke_same_a hM hB p h0 h1 O g1 T O1 g3 g4 g5 g6 g7 g8
                    · exact stroke_same_if_a hM hB p h0 h1 O g1 T O1 g3 g4 g5 g6 g7 g8
                · cases g8 : (insAt cn C (p + 3)).op == 17
                  · exact stroke_less_a hM hB p h0 h1 O g1 T O1 g3 g4 g5 g6 g8
                  · exact stroke_less_if_a hM hB p h0 h1 O g1 T O1 g3 g4 g5 g6 g8
              · exact stroke_times_a hM hB p h0 h1 O g1 T O1 g3 g4 g5
            · exact stroke_minus_a hM hB p h0 h1 O g1 T O1 g3 g4
          · exact stroke_plus_a hM hB p h0 h1 O g1 T O1 g3
      · exact stroke_ask_a hM hB p h0 h1 O g1 T
    · cases g2 : (insAt cn C (p + 2)).op == 12
      · cases T : letterV (selV ln L cn C (p + 1) 0)
        · cases O1 : isOp ln L cn C (p + 1)
          · exact stroke_one_b hM hB p h0 h1 O g1 g2 T O1
          · cases g3 : (selV ln L cn C (p + 2) 1).toList == [43]
            · cases g4 : (selV ln L cn C (p + 2) 1).toList == [45]
              · cases g5 : (selV ln L cn C (p + 2) 1).toList == [42]
                · cases g6 : (selV ln L cn C (p + 2) 1).toList == [60]
                  · cases g7 : (selV ln L cn C (p + 2) 1).toList == [61]
                    · exact stroke_else_b hM hB p h0 h1 O g1 g2 T O1 g3 g4 g5 g6 g7
                    · cases g8 : (insAt cn C (p + 3)).op == 17
                      · exact stroke_same_b hM hB p h0 h1 O g1 g2 T O1 g3 g4 g5 g6 g7 g8
                      · exact stroke_same_if_b hM hB p h0 h1 O g1 g2 T O1 g3 g4 g5 g6 g7 g8
                  · cases g8 : (insAt cn C (p + 3)).op == 17
                    · exact stroke_less_b hM hB p h0 h1 O g1 g2 T O1 g3 g4 g5 g6 g8
                    · exact stroke_less_if_b hM hB p h0 h1 O g1 g2 T O1 g3 g4 g5 g6 g8
                · exact stroke_times_b hM hB p h0 h1 O g1 g2 T O1 g3 g4 g5
              · exact stroke_minus_b hM hB p h0 h1 O g1 g2 T O1 g3 g4
            · exact stroke_plus_b hM hB p h0 h1 O g1 g2 T O1 g3
        · exact stroke_ask_b hM hB p h0 h1 O g1 g2 T
      · exact stroke_move hM hB p h0 h1 O g1 g2

def strokeCells (t : Int × Int × Int) : List Value := [.int .i64 t.1, .int .i64 t.2.1, .int .i64 t.2.2]
def planCells (ln : Nat) (L : Nat → LitR) (cn : Nat) (C : Nat → InsR) (k : Nat) : List Value := (List.range k).flatMap fun (j : Nat) => strokeCells (strokeV ln L cn C (j : Int))
theorem planCells_succ (k : Nat) : planCells ln L cn C (k + 1) = planCells ln L cn C k ++ strokeCells (strokeV ln L cn C k) := by
  unfold planCells; rw [List.range_succ, List.flatMap_append]; simp
theorem info34 : (Try.prog.info? 34).map (fun i => (i.zero, i.size, i.bytes)) = some (some (.agg #[.int .i64 0, .int .i64 0, .int .i64 0]), 3, 24) := by kernel_rfl

set_option maxHeartbeats 1000000 in
theorem plan_any (hM : IsM w0 LA ln CA cn L C) (hB : Below w0.heap.size w0 w) :
    Calls Try.prog 11 #[.agg #[.string s, .int .i64 x0, .int .i64 x1, .int .i64 x2, .slice LA ln lc, .slice CA cn cc]] w fun e w' => ∃ v, e = .returned v ∧ w'.ownsRow w.heap.size 34 3 v cn (planCells ln L cn C cn) ∧ Below w.heap.size w w' := by
  obtain ⟨i0, hi, hz0, hz1, hz2⟩ := info_parts info34
  have hn := hM.cn_le
  have hI : Inv w0 w (w.alloc (.cells #[.string s, .int .i64 x0, .int .i64 x1, .int .i64 x2, .slice LA ln lc, .slice CA cn cc] 25)) (w.alloc (.cells #[.string s, .int .i64 x0, .int .i64 x1, .int .i64 x2, .slice LA ln lc, .slice CA cn cc] 25)) := Inv.start hB (by (repeat' (first | (with_reducible exact Below.refl _ _) | (with_reducible assumption) | (with_reducible refine below_drewN ?_ _) | (with_reducible refine Below.alloc ?_ ?_ _) | (with_reducible refine Below.drew ?_) | (with_reducible refine Below.setCell ?_ ?_ _) | go_size)))
  have hW0 := hB.size
  clear hB
  go_enter Try.func11, Try.ntmps11
  go_wp2_with fail
  go_loopw [3, 8] (fun v i wr => ∃ k : Nat, k ≤ cn ∧ i = .int .i64 k ∧ wr.ownsRow (World.heap (w.alloc (.cells #[.string s, .int .i64 x0, .int .i64 x1, .int .i64 x2, .slice LA ln lc, .slice CA cn cc] 25))).size 34 3 v k (planCells ln L cn C k) ∧ Inv w0 w (w.alloc (.cells #[.string s, .int .i64 x0, .int .i64 x1, .int .i64 x2, .slice LA ln lc, .slice CA cn cc] 25)) wr) (fun _ i _ => cn - (intOf i).toNat)
  case atStart => exact ⟨0, Nat.zero_le _, rfl, World.ownsRow_nil _ _ _ _, hI⟩
  case round =>
    clear hI
    obtain ⟨k, hk, rfl, hown, hI⟩ := hrel
    have hc := hI.cell; have hf := hI.frozen; have hl0 := hI.lt_ (b := w.heap.size) (by simp only [World.size_alloc, World.size_setCell, World.size_drew, size_drewN]; omega); (try simp only [World.size_alloc, World.size_setCell, World.size_drew, size_drewN] at hc hf)
    by_cases hlt : k < cn
    · have hps := Lib.hid (planCells_succ (ln := ln) (L := L) (cn := cn) (C := C) k)
      obtain ⟨⟨sk, sa, sn⟩, hs⟩ : ∃ t, strokeV ln L cn C k = t := ⟨_, rfl⟩
      have hsv := Lib.hid hs
      clear hs
      go_wp2_with (first | (go_at_call 19; (with_reducible refine (stroke_any hM (hI.at0 (by (repeat' (first | (with_reducible exact Below.refl _ _) | (with_reducible assumption) | (with_reducible refine below_drewN ?_ _) | (with_reducible refine Below.alloc ?_ ?_ _) | (with_reducible refine Below.drew ?_) | (with_reducible refine Below.setCell ?_ ?_ _) | go_size)))) _).mono ?_); rw [hsv.out]; rintro e w1 ⟨rfl, hb⟩; (try clear hc hf hl0); have hown := ownsRow_below hown hb; replace hI := hI.step (by (repeat' (first | (with_reducible exact Below.refl _ _) | (with_reducible assumption) | (with_reducible refine below_drewN ?_ _) | (with_reducible refine Below.alloc ?_ ?_ _) | (with_reducible refine Below.drew ?_) | (with_reducible refine Below.setCell ?_ ?_ _) | go_size))) hb; clear hb; have hc := hI.cell; have hf := hI.frozen; have hl0 := hI.lt_ (b := w.heap.size) (by simp only [World.size_alloc, World.size_setCell, World.size_drew, size_drewN]; omega); (try simp only [World.size_alloc, World.size_setCell, World.size_drew, size_drewN] at hc hf)) | (at_builtin; refine wpList_append_own _ rfl _ _ 29 rfl (World.heap (w.alloc (.cells #[.string s, .int .i64 x0, .int .i64 x1, .int .i64 x2, .slice LA ln lc, .slice CA cn cc] 25))).size 34 i0 (.agg #[.int .i64 0, .int .i64 0, .int .i64 0]) 3 24 Try.underlying29 hi hz0 hz1 hz2 rfl (by decide) _ _ _ rfl (hown.alloc _) ⟨w1.heap.size, 0, none⟩ 1 1 [.int .i64 sk, .int .i64 sa, .int .i64 sn] rfl rfl (cells_new _ _ _) (by simp [Value.oneCell']) (by unfold maxLen; omega) (by omega) (by have := hI.bW.size; simp only [World.size_alloc, World.size_setCell, World.size_drew, size_drewN] at this ⊢; omega) ?_; intro v2 w2 hown2 hg2 _; replace hI := (hI.go (show Below _ _ (w1.alloc (.cells #[.int .i64 sk, .int .i64 sa, .int .i64 sn] 34)) by (repeat' (first | (with_reducible exact Below.refl _ _) | (with_reducible assumption) | (with_reducible refine below_drewN ?_ _) | (with_reducible refine Below.alloc ?_ ?_ _) | (with_reducible refine Below.drew ?_) | (with_reducible refine Below.setCell ?_ ?_ _) | go_size)))).append (below_of_append (hown.alloc _) hg2 (by have := hI.bW.size; simp only [World.size_alloc, World.size_setCell, World.size_drew, size_drewN] at this ⊢; omega)) (by simp only [World.size_alloc, World.size_setCell, World.size_drew, size_drewN]; omega) (by simp only [World.size_alloc, World.size_setCell, World.size_drew, size_drewN]; omega) (Nat.le_refl _)))
      go_roundw
      case rel => exact ⟨k + 1, by omega, by go_num, by rw [hps.out, hsv.out]; exact hown2, hI⟩
      case measure => simp [intOf]; omega
    · obtain rfl : k = cn := by omega
      go_wp2
      go_ret
      exact ⟨_, rfl, ownsRow_mono hown (by simp only [World.size_alloc]; omega), hI.bw⟩

end
end Go.Proofs.Ytjiidjcehhdnbaa

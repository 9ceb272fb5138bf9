/- Chapter 02: a memory lives. -/
import Derived.Test.YtpifodfckjphiaaNEW
import Derived.Test.YtpifodfckjphiaaLW1
import Derived.Test.YtpifodfckjphiaaHK4
import Derived.Deep.RegionLaw
namespace Go.Proofs.Ytpifodfckjphiaa
open Go.ChangeShapes Go.WideShapes Go.ChangeAt Go.RowKit Go.Deep Go.Joins Go.Maps
set_option linter.unusedVariables false
set_option linter.unusedSimpArgs false
theorem inI_of {n : Int} (h1 : -9223372036854775808 ≤ n) (h2 : n ≤ 9223372036854775807) : InI n := ⟨h1, h2⟩
def live1 : Hp := ⟨20, 1, [⟨0, 2, 1, [0, 0]⟩]⟩
def live2 : Hp := ⟨20, 2, [⟨0, 2, 1, [0, 0]⟩, ⟨6, 0, 2, [0]⟩]⟩
def live3 : Hp := ⟨20, 2, [⟨0, 2, 1, [0, 0]⟩, ⟨6, 0, 2, [16]⟩]⟩
theorem live_1 : makeV (nilHp 20) 0 2 2 = (live1, 6, 0) := by rfl
theorem live_2 : makeV live1 6 0 1 = (live2, 16, 0) := by rfl
theorem live_3 : putV live2 16 0 16 = (live3, 0) := by rfl
theorem live_4 : putV live3 16 0 8 = (live3, 6) := by rfl
theorem live_5 : putV live3 6 0 256 = (live3, 6) := by rfl
theorem live_6 : keepV live3 [16] = (live3, [], 1) := by rfl
theorem live_room : (live2.size : Int) - (adr live2.L live2.L.length : Int) = 8 := by rfl
theorem live_hash : (lookO live3.L 16).hash = 2 := by rfl
theorem live_cls : (lookO live3.L 16).cls = 6 := by rfl
theorem live_keep {w : World} {s bw bm : Nat} (P : PM w s bw bm live3) : Calls Try.prog 32 #[.pointer (some ⟨s, 0, none⟩), .slice (some ⟨w.heap.size, 0, none⟩) 1 1] (w.alloc (.cells #[.int .i64 16] 3)) fun e w' => ∃ v bm', e = .returned (.tuple #[v, .int .i64 1]) ∧ PM w' s bw bm' live3 ∧ Turns (gone s bw) w w' := by
  have hb : Below w.heap.size w (w.alloc (.cells #[.int .i64 16] 3)) := (Below.refl _ _).alloc (Nat.le_refl _) _
  have h1 : s < w.heap.size := cell_lt P.c0
  have h2 : bw < w.heap.size := cell_lt (P.low (k := 0) (by decide))
  have ho : Ints (w.alloc (.cells #[.int .i64 16] 3)) w.heap.size (.slice (some ⟨w.heap.size, 0, none⟩) 1 1) [16] := World.ownsRow_lit (size := 1) w #[.int .i64 16] 1 (Nat.le_refl _) (by decide) rfl
  obtain ⟨A, c, hv, hc, hn, hl, hm, hob⟩ := ho.nums
  simp only [Value.slice.injEq] at hv
  obtain ⟨rfl, _, rfl⟩ := hv
  refine (keep_any (P.below hb) hn (fun x hx => ?_) (by decide) (fun b off e => ?_)).mono ?_
  · rw [List.mem_singleton.1 hx]; exact inI_of (by decide) (by decide)
  · cases e; exact ⟨by omega, by omega⟩
  · rintro e w' ⟨v, rfl, hi, bm', hP, _, ht⟩
    rw [live_6] at hP ⊢
    exact ⟨v, bm', rfl, hP, (Turns.of_below hb).trans ht⟩
set_option maxRecDepth 100000 in
set_option maxHeartbeats 16000000 in
theorem lives_any (w : World) : Calls Try.prog 22 #[] w fun e w' => e = .returned (.bool true) ∧ Below w.heap.size w w' := by
  go_enter Try.func22, Try.ntmps22
  go_wp2_with (first | (go_at_call 10; (with_reducible refine (pnew_any _ 20 (inI_of (by decide) (by decide))).mono ?_); rintro e w1 ⟨h, B1⟩; rw [if_pos (show okN 20 = true from rfl)] at h; obtain ⟨s, bw, bm, rfl, ⟨q1, q2, q3⟩, P1⟩ := h; have hps : ∀ k, pset s bw bm k → w.heap.size ≤ k := (by rintro k (rfl | rfl | rfl) <;> assumption); have hgn : ∀ k, gone s bw k → w.heap.size ≤ k := (by rintro k (rfl | rfl) <;> assumption)) | (go_at_call 37; (with_reducible refine (make_any P1 0 2 2 (inI_of (by decide) (by decide)) (inI_of (by decide) (by decide)) (inI_of (by decide) (by decide))).mono ?_); rw [live_1]; rintro e w2 ⟨rfl, P2, t2⟩; have B2 := B1.trans (t2.below hps B1.size)) | (go_at_call 37; (with_reducible refine (make_any P2 6 0 1 (inI_of (by decide) (by decide)) (inI_of (by decide) (by decide)) (inI_of (by decide) (by decide))).mono ?_); rw [live_2]; rintro e w3 ⟨rfl, P3, t3⟩; have B3 := B2.trans (t3.below hps B2.size)) | (go_at_call 25; (with_reducible refine (room_any P3).mono ?_); rw [live_room]; rintro e w4 ⟨rfl, nd, hw4⟩; have P4 := P3.drewN nd; have B4 := below_drewN B3 nd; rw [← hw4] at P4 B4; clear hw4) | (go_at_call 28; (with_reducible refine (put_any P4 16 0 16 (inI_of (by decide) (by decide)) (inI_of (by decide) (by decide))).mono ?_); rw [live_3]; rintro e w5 ⟨rfl, P5, t5⟩; have B5 := B4.trans (t5.below hps B4.size)) | (go_at_call 28; (with_reducible refine (put_any P5 16 0 8 (inI_of (by decide) (by decide)) (inI_of (by decide) (by decide))).mono ?_); rw [live_4]; rintro e w6 ⟨rfl, P6, t6⟩; have B6 := B5.trans (t6.below hps B5.size)) | (go_at_call 28; (with_reducible refine (put_any P6 6 0 256 (inI_of (by decide) (by decide)) (inI_of (by decide) (by decide))).mono ?_); rw [live_5]; rintro e w7 ⟨rfl, P7, t7⟩; have B7 := B6.trans (t7.below hps B6.size)) | (go_at_call 32; (with_reducible refine (live_keep P7).mono ?_); rintro e w8 ⟨v8, bm', rfl, P8, t8⟩; have B8 := B7.trans (t8.below hgn B7.size)) | (go_at_call 20; (with_reducible refine (hash_any P8 16).mono ?_); rw [live_hash]; rintro e w9 ⟨rfl, n9, hw9⟩; have P9 := P8.drewN n9; have B9 := below_drewN B8 n9; rw [← hw9] at P9 B9; clear hw9) | (go_at_call 18; (with_reducible refine (class_any P9 16).mono ?_); rw [live_cls]; rintro e w10 ⟨rfl, n10, hw10⟩; have B10 := below_drewN B9 n10; rw [← hw10] at B10; clear hw10))
  go_ret
  exact ⟨rfl, by assumption⟩
end Go.Proofs.Ytpifodfckjphiaa

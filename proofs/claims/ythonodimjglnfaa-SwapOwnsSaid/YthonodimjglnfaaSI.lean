/- Chapter 04: the statements' example. -/
import Derived.Test.YthonodimjglnfaaSH
import Derived.Test.YthonodimjglnfaaSF
import Derived.Deep.RegionLaw
namespace Go.Proofs.Ythonodimjglnfaa
open Go.ChangeShapes Go.WideShapes Go.ChangeAt Go.RowKit Go.Deep Go.Joins Go.Maps
set_option linter.unusedVariables false
set_option linter.unusedSimpArgs false
theorem lit_off {w : World} {T : Nat → Prop} {A : Option Addr} {g : Nat} {x : Int} (hA : w.cell? ⟨g, 0, none⟩ = some (.int .i64 x)) (hx : InI x) (hT : ¬ T g) : Off w T (some ⟨g, 0, none⟩) 1 1 [x] :=
  ⟨rfl, Nat.le_refl _, by decide, fun k hk => ⟨g, 0, rfl, cell_lt hA, by
    obtain rfl : k = 0 := by have : k < 1 := hk; omega
    exact hA⟩, fun z hz => by rw [List.mem_singleton.1 hz]; exact hx, fun b off e => by cases e; exact hT⟩
theorem lit3 (w : World) (x y z : Int) : (((w.alloc (.cells #[.int .i64 x] 3)).alloc (.cells #[.int .i64 y] 3)).alloc (.cells #[.int .i64 z] 3)).cell? ⟨w.heap.size, 0, none⟩ = some (.int .i64 x) ∧ (((w.alloc (.cells #[.int .i64 x] 3)).alloc (.cells #[.int .i64 y] 3)).alloc (.cells #[.int .i64 z] 3)).cell? ⟨w.heap.size + 1, 0, none⟩ = some (.int .i64 y) ∧ (((w.alloc (.cells #[.int .i64 x] 3)).alloc (.cells #[.int .i64 y] 3)).alloc (.cells #[.int .i64 z] 3)).cell? ⟨w.heap.size + 2, 0, none⟩ = some (.int .i64 z) ∧ Below w.heap.size w (((w.alloc (.cells #[.int .i64 x] 3)).alloc (.cells #[.int .i64 y] 3)).alloc (.cells #[.int .i64 z] 3)) := by
  have s1 : (w.alloc (.cells #[.int .i64 x] 3)).heap.size = w.heap.size + 1 := by simp
  have s2 : ((w.alloc (.cells #[.int .i64 x] 3)).alloc (.cells #[.int .i64 y] 3)).heap.size = w.heap.size + 2 := by simp
  have h0 : (((w.alloc (.cells #[.int .i64 x] 3)).alloc (.cells #[.int .i64 y] 3)).alloc (.cells #[.int .i64 z] 3)).heap[w.heap.size]? = some (.cells #[.int .i64 x] 3 (0, 0)) := by
    rw [Below.heap_alloc _ _ _ (by rw [s2]; omega), Below.heap_alloc _ _ _ (by rw [s1]; omega)]
    exact heap_alloc_new w _
  have h1 : (((w.alloc (.cells #[.int .i64 x] 3)).alloc (.cells #[.int .i64 y] 3)).alloc (.cells #[.int .i64 z] 3)).heap[w.heap.size + 1]? = some (.cells #[.int .i64 y] 3 (0, 0)) := by
    rw [Below.heap_alloc _ _ _ (by rw [s2]; omega), ← s1]
    exact heap_alloc_new _ _
  have h2 : (((w.alloc (.cells #[.int .i64 x] 3)).alloc (.cells #[.int .i64 y] 3)).alloc (.cells #[.int .i64 z] 3)).heap[w.heap.size + 2]? = some (.cells #[.int .i64 z] 3 (0, 0)) := by
    rw [← s2]
    exact heap_alloc_new _ _
  exact ⟨by unfold World.cell?; rw [h0]; rfl, by unfold World.cell?; rw [h1]; rfl, by unfold World.cell?; rw [h2]; rfl, (((Below.refl _ _).alloc (Nat.le_refl _) _).alloc (by rw [s1]; omega) _).alloc (by rw [s2]; omega) _⟩
/-- the example's things -/
def liveT (A B : Option Addr) : Nat → ThT
  | 0 => ⟨0, 0, A, 1, 1, [-2]⟩
  | 1 => ⟨0, 0, none, 0, 0, []⟩
  | _ => ⟨0, 0, B, 1, 1, [-3]⟩
def live0 : Hp := ⟨2000, 3, [⟨0, 0, 1, [14]⟩, ⟨0, 0, 2, []⟩, ⟨0, 0, 3, [20]⟩]⟩
def live1 : Hp := ⟨2000, 3, [⟨0, 0, 1, [20]⟩, ⟨0, 0, 2, []⟩, ⟨0, 0, 3, [14]⟩]⟩
def live2 : Hp := ⟨2000, 3, [⟨0, 0, 1, [20]⟩, ⟨0, 0, 2, []⟩, ⟨0, 0, 3, [20]⟩]⟩
set_option maxRecDepth 100000 in
theorem live_made (A B : Option Addr) : madeV (liveT A B) 3 = live0 := by kernel_rfl
set_option maxRecDepth 100000 in
theorem live_both : bothV live0 [14] [20] [14] = (live1, [20], 0) := by rfl
set_option maxRecDepth 100000 in
theorem live_g1 : getV live1.L 6 0 = (20, 0) := by rfl
set_option maxRecDepth 100000 in
theorem live_g2 : getV live1.L 20 0 = (14, 0) := by rfl
set_option maxRecDepth 100000 in
theorem live_one : oneV live1 [14] [20] [14] = (live2, [20], 0) := by rfl
set_option maxRecDepth 100000 in
theorem live_pt : (if isV live2.L 14 = true then (ptrs live2.L).filter (ptP live2 14) else []) = [] := by rfl
set_option maxRecDepth 100000 in
theorem live_of : ofV live2 0 = [6, 14, 20] := by rfl
theorem live_things (w : World) : Calls Try.prog 10 #[.slice (some ⟨w.heap.size + 2, 0, none⟩) 3 3] (((w.alloc (.cells #[.int .i64 (-2)] 3)).alloc (.cells #[.int .i64 (-3)] 3)).alloc (.cells #[.int .i64 0, .int .i64 0, .slice (some ⟨w.heap.size, 0, none⟩) 1 1, .int .i64 0, .int .i64 0, .slice none 0 0, .int .i64 0, .int .i64 0, .slice (some ⟨w.heap.size + 1, 0, none⟩) 1 1] 53)) fun e w' => ∃ s r, e = .returned (.tuple #[.pointer (some ⟨s, 0, none⟩), .pointer (some ⟨r, 0, none⟩), .bool true]) ∧ ∃ bw bm, PM w' s bw bm live0 ∧ (∀ k, pset s bw bm k → w.heap.size ≤ k) ∧ Below w.heap.size w w' := by
  have s1 : (w.alloc (.cells #[.int .i64 (-2)] 3)).heap.size = w.heap.size + 1 := by simp
  have s2 : ((w.alloc (.cells #[.int .i64 (-2)] 3)).alloc (.cells #[.int .i64 (-3)] 3)).heap.size = w.heap.size + 2 := by simp
  have h0 : (((w.alloc (.cells #[.int .i64 (-2)] 3)).alloc (.cells #[.int .i64 (-3)] 3)).alloc (.cells #[.int .i64 0, .int .i64 0, .slice (some ⟨w.heap.size, 0, none⟩) 1 1, .int .i64 0, .int .i64 0, .slice none 0 0, .int .i64 0, .int .i64 0, .slice (some ⟨w.heap.size + 1, 0, none⟩) 1 1] 53)).heap[w.heap.size]? = some (.cells #[.int .i64 (-2)] 3 (0, 0)) := by
    rw [Below.heap_alloc _ _ _ (by rw [s2]; omega), Below.heap_alloc _ _ _ (by rw [s1]; omega)]
    exact heap_alloc_new w _
  have h1 : (((w.alloc (.cells #[.int .i64 (-2)] 3)).alloc (.cells #[.int .i64 (-3)] 3)).alloc (.cells #[.int .i64 0, .int .i64 0, .slice (some ⟨w.heap.size, 0, none⟩) 1 1, .int .i64 0, .int .i64 0, .slice none 0 0, .int .i64 0, .int .i64 0, .slice (some ⟨w.heap.size + 1, 0, none⟩) 1 1] 53)).heap[w.heap.size + 1]? = some (.cells #[.int .i64 (-3)] 3 (0, 0)) := by
    rw [Below.heap_alloc _ _ _ (by rw [s2]; omega), ← s1]
    exact heap_alloc_new _ _
  have h2 : (((w.alloc (.cells #[.int .i64 (-2)] 3)).alloc (.cells #[.int .i64 (-3)] 3)).alloc (.cells #[.int .i64 0, .int .i64 0, .slice (some ⟨w.heap.size, 0, none⟩) 1 1, .int .i64 0, .int .i64 0, .slice none 0 0, .int .i64 0, .int .i64 0, .slice (some ⟨w.heap.size + 1, 0, none⟩) 1 1] 53)).heap[w.heap.size + 2]? = some (.cells #[.int .i64 0, .int .i64 0, .slice (some ⟨w.heap.size, 0, none⟩) 1 1, .int .i64 0, .int .i64 0, .slice none 0 0, .int .i64 0, .int .i64 0, .slice (some ⟨w.heap.size + 1, 0, none⟩) 1 1] 53 (0, 0)) := by
    rw [← s2]
    exact heap_alloc_new _ _
  have hbl : Below w.heap.size w (((w.alloc (.cells #[.int .i64 (-2)] 3)).alloc (.cells #[.int .i64 (-3)] 3)).alloc (.cells #[.int .i64 0, .int .i64 0, .slice (some ⟨w.heap.size, 0, none⟩) 1 1, .int .i64 0, .int .i64 0, .slice none 0 0, .int .i64 0, .int .i64 0, .slice (some ⟨w.heap.size + 1, 0, none⟩) 1 1] 53)) := (((Below.refl _ _).alloc (Nat.le_refl _) _).alloc (by rw [s1]; omega) _).alloc (by rw [s2]; omega) _
  obtain ⟨W, hW⟩ : ∃ W, (((w.alloc (.cells #[.int .i64 (-2)] 3)).alloc (.cells #[.int .i64 (-3)] 3)).alloc (.cells #[.int .i64 0, .int .i64 0, .slice (some ⟨w.heap.size, 0, none⟩) 1 1, .int .i64 0, .int .i64 0, .slice none 0 0, .int .i64 0, .int .i64 0, .slice (some ⟨w.heap.size + 1, 0, none⟩) 1 1] 53)) = W := ⟨_, rfl⟩
  rw [hW] at h0 h1 h2 hbl ⊢
  clear hW s1 s2
  have cells : ∀ j v, #[.int .i64 0, .int .i64 0, .slice (some ⟨w.heap.size, 0, none⟩) 1 1, .int .i64 0, .int .i64 0, .slice none 0 0, .int .i64 0, .int .i64 0, .slice (some ⟨w.heap.size + 1, 0, none⟩) 1 1][j]? = some v → W.cell? ⟨w.heap.size + 2, j, none⟩ = some v := fun j v hj => by unfold World.cell?; rw [h2]; exact hj
  have lb := lt_of_block h2
  have IZ : InI 0 := inI_of (by decide) (by decide)
  have raw : RawT W (some ⟨w.heap.size + 2, 0, none⟩) 3 3 (liveT (some ⟨w.heap.size, 0, none⟩) (some ⟨w.heap.size + 1, 0, none⟩)) := by
    refine ⟨Nat.le_refl _, by decide, fun i hi => ?_, fun i hi => ?_⟩
    · match i, hi with
      | 0, _ => exact ⟨_, 0, rfl, lb, cells 0 _ rfl, cells 1 _ rfl, cells 2 _ rfl⟩
      | 1, _ => exact ⟨_, 0, rfl, lb, cells 3 _ rfl, cells 4 _ rfl, cells 5 _ rfl⟩
      | 2, _ => exact ⟨_, 0, rfl, lb, cells 6 _ rfl, cells 7 _ rfl, cells 8 _ rfl⟩
    · match i, hi with
      | 0, _ => exact ⟨IZ, IZ, rfl, Nat.le_refl _, (show 1 ≤ maxLen by decide), fun k hk => ⟨_, 0, rfl, lt_of_block h0, by
          obtain rfl : k = 0 := by have : k < 1 := hk; omega
          unfold World.cell?; rw [h0]; rfl⟩, fun x hx => by rw [List.mem_singleton.1 hx]; exact inI_of (by decide) (by decide)⟩
      | 1, _ => exact ⟨IZ, IZ, rfl, Nat.le_refl _, (show 0 ≤ maxLen by decide), fun k hk => absurd hk (by simp [liveT]), fun x hx => absurd hx (by simp [liveT])⟩
      | 2, _ => exact ⟨IZ, IZ, rfl, Nat.le_refl _, (show 1 ≤ maxLen by decide), fun k hk => ⟨_, 0, rfl, lt_of_block h1, by
          obtain rfl : k = 0 := by have : k < 1 := hk; omega
          unfold World.cell?; rw [h1]; rfl⟩, fun x hx => by rw [List.mem_singleton.1 hx]; exact inI_of (by decide) (by decide)⟩
  refine (things_any raw).mono ?_
  rintro e w' ⟨s, r, rfl, hg⟩
  rw [live_made] at hg
  obtain ⟨bw, bm, R, ⟨lv, fv, P, Q, _, h4⟩, hb, q⟩ := hg
  refine ⟨s, r, rfl, bw, bm, P, fun k hk => ?_, hbl.trans (hb.mono hbl.size)⟩
  rcases Nat.lt_or_ge k w.heap.size with z | z
  · exact absurd hk (h4 k (Nat.lt_of_lt_of_le z hbl.size)).1
  · exact z
theorem both_lit {w : World} {s bw bm : Nat} {m : Hp} (h : PM w s bw bm m) (x y z : Int) (hx : InI x) (hy : InI y) (hz : InI z) : Calls Try.prog 20 #[.pointer (some ⟨s, 0, none⟩), .slice (some ⟨w.heap.size, 0, none⟩) 1 1, .slice (some ⟨w.heap.size + 1, 0, none⟩) 1 1, .slice (some ⟨w.heap.size + 2, 0, none⟩) 1 1] (((w.alloc (.cells #[.int .i64 x] 3)).alloc (.cells #[.int .i64 y] 3)).alloc (.cells #[.int .i64 z] 3)) (SwPost w s bw bm (bothV m [x] [y] [z])) := by
  obtain ⟨c0, c1, c2, hb⟩ := lit3 w x y z
  have hT : ∀ k, w.heap.size ≤ k → ¬ pset s bw bm k := fun k hk q => absurd (h.lt k q) (by omega)
  exact ((both_any (h.below hb) (lit_off (A := none) c0 hx (hT _ (Nat.le_refl _))) (lit_off (A := none) c1 hy (hT _ (by omega))) (lit_off (A := none) c2 hz (hT _ (by omega))) (.inr (Nat.one_pos)) (.inr (Nat.one_pos)) (.inr (Nat.one_pos)) (by decide) (by decide) (by decide)).mono (fun e w' q => SwPost.later hb q))
theorem one_lit {w : World} {s bw bm : Nat} {m : Hp} (h : PM w s bw bm m) (x y z : Int) (hx : InI x) (hy : InI y) (hz : InI z) : Calls Try.prog 21 #[.pointer (some ⟨s, 0, none⟩), .slice (some ⟨w.heap.size, 0, none⟩) 1 1, .slice (some ⟨w.heap.size + 1, 0, none⟩) 1 1, .slice (some ⟨w.heap.size + 2, 0, none⟩) 1 1] (((w.alloc (.cells #[.int .i64 x] 3)).alloc (.cells #[.int .i64 y] 3)).alloc (.cells #[.int .i64 z] 3)) (SwPost w s bw bm (oneV m [x] [y] [z])) := by
  obtain ⟨c0, c1, c2, hb⟩ := lit3 w x y z
  have hT : ∀ k, w.heap.size ≤ k → ¬ pset s bw bm k := fun k hk q => absurd (h.lt k q) (by omega)
  exact ((one_any (h.below hb) (lit_off (A := none) c0 hx (hT _ (Nat.le_refl _))) (lit_off (A := none) c1 hy (hT _ (by omega))) (lit_off (A := none) c2 hz (hT _ (by omega))) (.inr (Nat.one_pos)) (by decide) (by decide) (by decide)).mono (fun e w' q => SwPost.later hb q))
set_option maxRecDepth 100000 in
set_option maxHeartbeats 16000000 in
theorem lives_any (w : World) : Calls Try.prog 18 #[] w fun e w' => e = .returned (.bool true) ∧ Below w.heap.size w w' := by
  go_enter Try.func18, Try.ntmps18
  go_wp2_with (first | (go_at_call 10; (with_reducible refine (live_things w).mono ?_); rintro e w1 ⟨s, r, rfl, bw, bm, hP, hps, hb⟩; have HP := Lib.hid hP; have HPS := Lib.hid hps; have HB := Lib.hid hb; clear hP hps hb) | (go_at_call 20; (with_reducible refine (both_lit HP.out 14 20 14 (inI_of (by decide) (by decide)) (inI_of (by decide) (by decide)) (inI_of (by decide) (by decide))).mono ?_); rw [live_both]; rintro e w2 ⟨v1, rfl, _, hi, hp, ht⟩; obtain ⟨A1, c1, rfl, _, _⟩ := hi.nums; obtain ⟨g1, rfl, hgb, hgc, _⟩ := Ints.at_ hi rfl (show 0 < 1 by decide); have b1 : w2.cell? ⟨g1, 0, none⟩ = some (.int .i64 20) := hgc; replace HB := Lib.hid (HB.out.trans (ht.below HPS.out HB.out.size)); have HPL1 : Hid (∀ k, pset s bw bm k → k < g1) := Lib.hid (fun k q => Nat.lt_of_lt_of_le (HP.out.lt k q) hgb); replace HP := Lib.hid hp; clear hi hp ht hgb hgc) | (go_at_call_of 43 (Value.int .i64 6); (with_reducible refine (get_any HP.out 6 0 (inI_of (by decide) (by decide))).mono ?_); rw [live_g1]; rintro e w2 ⟨rfl, n2, hw2⟩; have b1 : w2.cell? ⟨g1, 0, none⟩ = some (.int .i64 20) := (by rw [hw2]; exact b1); replace HB := Lib.hid (below_drewN HB.out n2); replace HP := Lib.hid (HP.out.drewN n2); rw [← hw2] at HP HB; clear hw2) | (go_at_call_of 43 (Value.int .i64 20); (with_reducible refine (get_any HP.out 20 0 (inI_of (by decide) (by decide))).mono ?_); rw [live_g2]; rintro e w2 ⟨rfl, n2, hw2⟩; have b1 : w2.cell? ⟨g1, 0, none⟩ = some (.int .i64 20) := (by rw [hw2]; exact b1); replace HB := Lib.hid (below_drewN HB.out n2); replace HP := Lib.hid (HP.out.drewN n2); rw [← hw2] at HP HB; clear hw2) | (go_at_call 21; (with_reducible refine (one_lit HP.out 14 20 14 (inI_of (by decide) (by decide)) (inI_of (by decide) (by decide)) (inI_of (by decide) (by decide))).mono ?_); rw [live_one]; rintro e w2 ⟨v2, rfl, _, hi, hp, ht⟩; obtain ⟨A2, c2, rfl, _, _⟩ := hi.nums; obtain ⟨g2, rfl, hgb, hgc, _⟩ := Ints.at_ hi rfl (show 0 < 1 by decide); have b1 := (ht.cell b1 (fun q => absurd (HPL1.out _ q) (by omega))); have b2 : w2.cell? ⟨g2, 0, none⟩ = some (.int .i64 20) := hgc; replace HB := Lib.hid (HB.out.trans (ht.below HPS.out HB.out.size)); have HPL2 : Hid (∀ k, pset s bw bm k → k < g2) := Lib.hid (fun k q => Nat.lt_of_lt_of_le (HP.out.lt k q) hgb); replace HP := Lib.hid hp; clear hi hp ht hgb hgc) | (go_at_call 16; (with_reducible refine (pt_any HP.out 14).mono ?_); rw [live_pt]; rintro e w2 ⟨v3, rfl, hi, hb⟩; obtain ⟨A3, c3, rfl, _, _⟩ := hi.nums; replace HB := Lib.hid (HB.out.trans (hb.mono HB.out.size)); replace HP := Lib.hid (HP.out.below hb); clear hi hb) | (go_at_call 14; (with_reducible refine (of_any HP.out 0).mono ?_); rw [live_of]; rintro e w2 ⟨v4, rfl, hi, hb⟩; obtain ⟨A4, c4, rfl, _, _⟩ := hi.nums; replace HB := Lib.hid (HB.out.trans (hb.mono HB.out.size)); clear hi hb))
  go_ret
  exact ⟨rfl, HB.out⟩
end Go.Proofs.Ythonodimjglnfaa

/- Chapter 18: instructions done one after the other: sends. -/
import Derived.Test.YtjiidjcehhdnbaaFW19
namespace Go.Proofs.Ytjiidjcehhdnbaa
open Go.ChangeShapes Go.WideShapes Go.ChangeAt Go.RowKit Go.Deep Go.Joins
set_option linter.unusedVariables false
set_option linter.unusedSimpArgs false
section
variable {w0 w : World} {LA : Option Addr} {ln lc : Nat} {CA : Option Addr} {cn cc : Nat} {L : Nat → LitR} {C : Nat → InsR} {s : ByteArray} {x0 x1 x2 : Int} {TA : Option Addr} {tn tc : Nat} {TF : Nat → Int} {FA : Option Addr} {fn fc : Nat} {FF : Nat → Int} {self : Int}


set_option maxRecDepth 100000 in
set_option maxHeartbeats 8000000 in
theorem done_ok3 (hM : IsM w0 LA ln CA cn L C) (hT : Words w0 TA tn TF) (hF : Words w0 FA fn FF) (hB : Below w0.heap.size w0 w) (q : Nat) (a b : Int) (ho : opndV ln L cn C self tn TF fn FF q = (a, true)) (ho1 : opndV ln L cn C self tn TF fn FF ((q : Int) + 1) = (b, true)) (a2 : Int) (ho2 : opndV ln L cn C self tn TF fn FF ((q : Int) + 2) = (a2, false)) (la : Nat) (hla : la < ln) (hj2 : C (q + 2) = ⟨14, la, 1⟩) (u : ByteArray) (hu : (L la).text = u) (r : Int) (sa : isSmallV a = true) (sb : isSmallV b = true) (hr : resV u (valueV a) (valueV b) = (r, true)) (hq : q + 3 ≤ cn) :
    Calls Try.prog 17 #[.agg #[.string s, .int .i64 x0, .int .i64 x1, .int .i64 x2, .slice LA ln lc, .slice CA cn cc], .int .i64 q, .int .i64 3, .int .i64 self, .slice TA tn tc, .slice FA fn fc] w (DonePost w ⟨q + 3, [r], -1, 0, true⟩) := by
  obtain ⟨i0, hi, hz0, hz1, hz2⟩ := info_parts info3
  have HR : ∀ W, Calls Try.prog 34 #[.string u, .int .i64 (valueV a), .int .i64 (valueV b)] W fun e w' => e = .returned (.tuple #[.int .i64 r, .bool true]) ∧ w' = W := fun W => by
    obtain ⟨m1, m2⟩ := valueV_bd a sa
    obtain ⟨m3, m4⟩ := valueV_bd b sb
    have := result_any u (valueV a) (valueV b) m1 m2 m3 m4 W
    rw [hr] at this; exact this
  clear hr
  have h0 := hB.size
  have hcn := hM.cn_le
  have hln := hM.ln_le
  have hq' : q ≤ 1000 := by omega
  have HO := Lib.hid ho
  have HO1 := Lib.hid ho1
  have HO2 := Lib.hid (show opndV ln L cn C self tn TF fn FF ((q : Int) + 1 + 1) = (a2, false) by rw [show (q : Int) + 1 + 1 = (q : Int) + 2 by omega]; exact ho2)
  have HJ2 := Lib.hid (show C (q + 1 + 1) = ⟨14, la, 1⟩ from hj2)
  have HU := Lib.hid hu
  have hX : Bx w0 w #[.string s, .int .i64 x0, .int .i64 x1, .int .i64 x2, .slice LA ln lc, .slice CA cn cc] (-1) 0 (((w.alloc (.cells #[.string s, .int .i64 x0, .int .i64 x1, .int .i64 x2, .slice LA ln lc, .slice CA cn cc] 25)).alloc (.cells #[.int .i64 0, .slice none 0 0, .int .i64 0, .int .i64 0] 48)).alloc (.cells #[.int .i64 0, .slice none 0 0, .int .i64 (-1), .int .i64 0] 48)) := by
    have cc : ∀ j u, (#[.string s, .int .i64 x0, .int .i64 x1, .int .i64 x2, .slice LA ln lc, .slice CA cn cc] : Array Value)[j]? = some u → (((w.alloc (.cells #[.string s, .int .i64 x0, .int .i64 x1, .int .i64 x2, .slice LA ln lc, .slice CA cn cc] 25)).alloc (.cells #[.int .i64 0, .slice none 0 0, .int .i64 0, .int .i64 0] 48)).alloc (.cells #[.int .i64 0, .slice none 0 0, .int .i64 (-1), .int .i64 0] 48)).cell? ⟨w.heap.size, j, none⟩ = some u := by
      intro j u hu
      simpa [go_sem] using hu
    refine ⟨?_, ?_, by simp only [World.size_alloc, World.size_setCell, World.size_drew, size_drewN]; omega, cc, ?_, ?_, ?_, ?_, ?_, ?_, ?_, ?_, ?_⟩
    · have hS := hB.size; (repeat' (first | (with_reducible exact Below.refl _ _) | (with_reducible assumption) | (with_reducible refine below_drewN ?_ _) | (with_reducible refine Below.alloc ?_ ?_ _) | (with_reducible refine Below.drew ?_) | (with_reducible refine Below.setCell ?_ ?_ _) | go_size))
    · (repeat' (first | (with_reducible exact Below.refl _ _) | (with_reducible assumption) | (with_reducible refine below_drewN ?_ _) | (with_reducible refine Below.alloc ?_ ?_ _) | (with_reducible refine Below.drew ?_) | (with_reducible refine Below.setCell ?_ ?_ _) | go_size))
    all_goals (try (simp [go_sem]; done))
    intro b j h1 h2
    rcases (show b = w.heap.size ∨ b = w.heap.size + 1 ∨ b = w.heap.size + 1 + 1 by omega) with rfl | rfl | rfl <;> simp [go_sem]
  clear ho ho1 ho2 hj2 hu
  obtain ⟨b0', off, rfl, hlt, c0, c1, c2⟩ := hM.ins hB (k := q) (by omega)
  obtain ⟨bl, offl, rfl, hlt', d0, d1, d2, d3⟩ := hM.lit hB (k := la) hla
  clear hlt c0 c1 c2 hlt' d0 d1 d2 d3
  go_enter Try.func17, Try.ntmps17
  go_wp2_with fail
  refine wp_loop_rounds 4 ?_
  rw [rounds_succ]
  go_wp2_with (first | (go_at_call 20; (with_reducible refine (ropnd_any hM hT hF (Below.trans' hX.b0 (by (repeat' (first | (with_reducible exact Below.refl _ _) | (with_reducible assumption) | (with_reducible refine below_drewN ?_ _) | (with_reducible refine Below.alloc ?_ ?_ _) | (with_reducible refine Below.drew ?_) | (with_reducible refine Below.setCell ?_ ?_ _) | go_size)))) _).mono ?_); rw [HO.out]; rintro e w2 ⟨rfl, hb⟩; replace hX := hX.step hb h0; (try clear b0 bw lt m m0 m1 m2 m3 m4 m5 r0 r1 r2 r3 o0 o1 o2 o3 fr hl0 hl1 hl2 ff0 ff1 ff2 ff3 fe0 fe1 fe2 fe3); clear hb; have hX' := hX; obtain ⟨b0, bw, lt, m, r0, r1, r2, r3, o0, o1, o2, o3, fr⟩   := hX'; have m0 := m 0 _ rfl; have m1 := m 1 _ rfl; have m2 := m 2 _ rfl; have m3 := m 3 _ rfl; have m4 := m 4 _ rfl; have m5 := m 5 _ rfl; have hl0 := Nat.lt_trans (Nat.lt_succ_self _) (Nat.lt_trans (Nat.lt_succ_self _) lt); have hl1 := Nat.lt_trans (Nat.lt_succ_self _) lt; have hl2 := lt; have ff0 := fr (w.heap.size + 1 + 1) 0 (by omega) (by omega); have ff1 := fr (w.heap.size + 1 + 1) 1 (by omega) (by omega); have ff2 := fr (w.heap.size + 1 + 1) 2 (by omega) (by omega); have ff3 := fr (w.heap.size + 1 + 1) 3 (by omega) (by omega); have fe0 := fr (w.heap.size + 1) 0 (by omega) (by omega); have fe1 := fr (w.heap.size + 1) 1 (by omega) (by omega); have fe2 := fr (w.heap.size + 1) 2 (by omega) (by omega); have fe3 := fr (w.heap.size + 1) 3 (by omega) (by omega)) | (at_builtin; refine wpList_append_own _ rfl _ _ 36 rfl (w.heap.size + 1 + 1 + 1) 3 i0 (.int .i64 0) 1 8 Try.underlying36 hi hz0 hz1 hz2 rfl (by decide) _ _ _ rfl ((World.ownsRow_nil _ _ _ _).alloc _) ⟨w2.heap.size, 0, none⟩ 1 1 [.int .i64 a] rfl rfl (cells_new _ _ _) (by simp [Value.oneCell']) (by unfold maxLen; omega) (by omega) (by simp only [World.size_alloc]; omega) ?_; intro v2 w3 hown2 hg2 _; replace hX := (hX.step (show Below _ _ (w2.alloc (.cells #[.int .i64 a] 3)) by (repeat' (first | (with_reducible exact Below.refl _ _) | (with_reducible assumption) | (with_reducible refine below_drewN ?_ _) | (with_reducible refine Below.alloc ?_ ?_ _) | (with_reducible refine Below.drew ?_) | (with_reducible refine Below.setCell ?_ ?_ _) | go_size))) h0).step' (below_of_append ((World.ownsRow_nil w2 (w.heap.size + 1 + 1 + 1) 3 1).alloc _) hg2 (by have := hX.lt; simp only [World.size_alloc]; omega)) h0))
  obtain ⟨g1, cap1, rfl, hg1, hc11, hcm1⟩ := own_one_shape hown2
  simp only [Nat.zero_add, List.nil_append] at hown2
  (try clear b0 bw lt m m0 m1 m2 m3 m4 m5 r0 r1 r2 r3 o0 o1 o2 o3 fr hl0 hl1 hl2 ff0 ff1 ff2 ff3 fe0 fe1 fe2 fe3)
  have hX' := hX; obtain ⟨b0, bw, lt, m, r0, r1, r2, r3, o0, o1, o2, o3, fr⟩   := hX'; have m0 := m 0 _ rfl; have m1 := m 1 _ rfl; have m2 := m 2 _ rfl; have m3 := m 3 _ rfl; have m4 := m 4 _ rfl; have m5 := m 5 _ rfl; have hl0 := Nat.lt_trans (Nat.lt_succ_self _) (Nat.lt_trans (Nat.lt_succ_self _) lt); have hl1 := Nat.lt_trans (Nat.lt_succ_self _) lt; have hl2 := lt; have ff0 := fr (w.heap.size + 1 + 1) 0 (by omega) (by omega); have ff1 := fr (w.heap.size + 1 + 1) 1 (by omega) (by omega); have ff2 := fr (w.heap.size + 1 + 1) 2 (by omega) (by omega); have ff3 := fr (w.heap.size + 1 + 1) 3 (by omega) (by omega); have fe0 := fr (w.heap.size + 1) 0 (by omega) (by omega); have fe1 := fr (w.heap.size + 1) 1 (by omega) (by omega); have fe2 := fr (w.heap.size + 1) 2 (by omega) (by omega); have fe3 := fr (w.heap.size + 1) 3 (by omega) (by omega)
  rw [rounds_succ]
  go_wp2_with (first | (go_at_call 20; (with_reducible refine (ropnd_any hM hT hF (Below.trans' hX.b0 (by (repeat' (first | (with_reducible exact Below.refl _ _) | (with_reducible assumption) | (with_reducible refine below_drewN ?_ _) | (with_reducible refine Below.alloc ?_ ?_ _) | (with_reducible refine Below.drew ?_) | (with_reducible refine Below.setCell ?_ ?_ _) | go_size)))) _).mono ?_); rw [HO1.out]; rintro e w4 ⟨rfl, hb⟩; replace hX := hX.step hb h0; have hown2 := ownsRow_below hown2 hb; (try clear b0 bw lt m m0 m1 m2 m3 m4 m5 r0 r1 r2 r3 o0 o1 o2 o3 fr hl0 hl1 hl2 ff0 ff1 ff2 ff3 fe0 fe1 fe2 fe3); clear hb; have hX' := hX; obtain ⟨b0, bw, lt, m, r0, r1, r2, r3, o0, o1, o2, o3, fr⟩   := hX'; have m0 := m 0 _ rfl; have m1 := m 1 _ rfl; have m2 := m 2 _ rfl; have m3 := m 3 _ rfl; have m4 := m 4 _ rfl; have m5 := m 5 _ rfl; have hl0 := Nat.lt_trans (Nat.lt_succ_self _) (Nat.lt_trans (Nat.lt_succ_self _) lt); have hl1 := Nat.lt_trans (Nat.lt_succ_self _) lt; have hl2 := lt; have ff0 := fr (w.heap.size + 1 + 1) 0 (by omega) (by omega); have ff1 := fr (w.heap.size + 1 + 1) 1 (by omega) (by omega); have ff2 := fr (w.heap.size + 1 + 1) 2 (by omega) (by omega); have ff3 := fr (w.heap.size + 1 + 1) 3 (by omega) (by omega); have fe0 := fr (w.heap.size + 1) 0 (by omega) (by omega); have fe1 := fr (w.heap.size + 1) 1 (by omega) (by omega); have fe2 := fr (w.heap.size + 1) 2 (by omega) (by omega); have fe3 := fr (w.heap.size + 1) 3 (by omega) (by omega)) | (at_builtin; refine wpList_append_own _ rfl _ _ 36 rfl (w.heap.size + 1 + 1 + 1) 3 i0 (.int .i64 0) 1 8 Try.underlying36 hi hz0 hz1 hz2 rfl (by decide) _ _ _ rfl ((hown2).alloc _) ⟨World.heap w4 |>.size, 0, none⟩ 1 1 [.int .i64 b] rfl rfl (cells_new _ _ _) (by simp [Value.oneCell']) (by unfold maxLen; omega) (by omega) (by have := hX.lt; simp only [World.size_alloc, World.size_setCell, World.size_drew, size_drewN] at this ⊢; omega) ?_; intro v4 w5 hown4 hg4 _; replace hX := (hX.step (show Below _ _ (World.alloc w4 (.cells #[.int .i64 b] 3)) by (repeat' (first | (with_reducible exact Below.refl _ _) | (with_reducible assumption) | (with_reducible refine below_drewN ?_ _) | (with_reducible refine Below.alloc ?_ ?_ _) | (with_reducible refine Below.drew ?_) | (with_reducible refine Below.setCell ?_ ?_ _) | go_size))) h0).step' (below_of_append ((hown2).alloc _) hg4 (by have := hX.lt; simp only [World.size_alloc, World.size_setCell, World.size_drew, size_drewN] at this ⊢; omega)) h0; clear hg4))
  obtain ⟨g, cap, rfl, hg, hc1, hcm⟩ := own_two_shape hown4
  simp only [Nat.zero_add, List.nil_append, List.cons_append] at hown4
  obtain ⟨hown2, _⟩ := And.intro hown4 trivial
  clear hown4 
  have hne : g ≠ w.heap.size + 1 + 1 := by omega
  have hne' := hne.symm
  (try clear b0 bw lt m m0 m1 m2 m3 m4 m5 r0 r1 r2 r3 o0 o1 o2 o3 fr hl0 hl1 hl2 ff0 ff1 ff2 ff3 fe0 fe1 fe2 fe3)
  have hX' := hX; obtain ⟨b0, bw, lt, m, r0, r1, r2, r3, o0, o1, o2, o3, fr⟩   := hX'; have m0 := m 0 _ rfl; have m1 := m 1 _ rfl; have m2 := m 2 _ rfl; have m3 := m 3 _ rfl; have m4 := m 4 _ rfl; have m5 := m 5 _ rfl; have hl0 := Nat.lt_trans (Nat.lt_succ_self _) (Nat.lt_trans (Nat.lt_succ_self _) lt); have hl1 := Nat.lt_trans (Nat.lt_succ_self _) lt; have hl2 := lt; have ff0 := fr (w.heap.size + 1 + 1) 0 (by omega) (by omega); have ff1 := fr (w.heap.size + 1 + 1) 1 (by omega) (by omega); have ff2 := fr (w.heap.size + 1 + 1) 2 (by omega) (by omega); have ff3 := fr (w.heap.size + 1 + 1) 3 (by omega) (by omega); have fe0 := fr (w.heap.size + 1) 0 (by omega) (by omega); have fe1 := fr (w.heap.size + 1) 1 (by omega) (by omega); have fe2 := fr (w.heap.size + 1) 2 (by omega) (by omega); have fe3 := fr (w.heap.size + 1) 3 (by omega) (by omega)
  rw [rounds_succ]
  go_wp2_with (first | (go_at_call 20; (with_reducible refine (ropnd_any hM hT hF (Below.trans' hX.b0 (by (repeat' (first | (with_reducible exact Below.refl _ _) | (with_reducible assumption) | (with_reducible refine below_drewN ?_ _) | (with_reducible refine Below.alloc ?_ ?_ _) | (with_reducible refine Below.drew ?_) | (with_reducible refine Below.setCell ?_ ?_ _) | go_size)))) _).mono ?_); rw [HO2.out]; rintro e w6 ⟨rfl, hb⟩; replace hX := hX.step hb h0; have hown2 := ownsRow_below hown2 hb; have s0 := (hown2.cellAt 0 (by simp)).trans rfl; have s1 := (hown2.cellAt 1 (by simp)).trans rfl; have hgl := cell_lt s0; have fg0 := hown2.frozenAt 0; (try clear b0 bw lt m m0 m1 m2 m3 m4 m5 r0 r1 r2 r3 o0 o1 o2 o3 fr hl0 hl1 hl2 ff0 ff1 ff2 ff3 fe0 fe1 fe2 fe3); clear hb; have hX' := hX; obtain ⟨b0, bw, lt, m, r0, r1, r2, r3, o0, o1, o2, o3, fr⟩   := hX'; have m0 := m 0 _ rfl; have m1 := m 1 _ rfl; have m2 := m 2 _ rfl; have m3 := m 3 _ rfl; have m4 := m 4 _ rfl; have m5 := m 5 _ rfl; have hl0 := Nat.lt_trans (Nat.lt_succ_self _) (Nat.lt_trans (Nat.lt_succ_self _) lt); have hl1 := Nat.lt_trans (Nat.lt_succ_self _) lt; have hl2 := lt; have ff0 := fr (w.heap.size + 1 + 1) 0 (by omega) (by omega); have ff1 := fr (w.heap.size + 1 + 1) 1 (by omega) (by omega); have ff2 := fr (w.heap.size + 1 + 1) 2 (by omega) (by omega); have ff3 := fr (w.heap.size + 1 + 1) 3 (by omega) (by omega); have fe0 := fr (w.heap.size + 1) 0 (by omega) (by omega); have fe1 := fr (w.heap.size + 1) 1 (by omega) (by omega); have fe2 := fr (w.heap.size + 1) 2 (by omega) (by omega); have fe3 := fr (w.heap.size + 1) 3 (by omega) (by omega); obtain ⟨b', off', eb, hlt, c0, c1, c2⟩ := hM.ins hX.b0 (k := q + 1 + 1) (by omega); cases eb; rw [HJ2.out] at c0 c1 c2; obtain ⟨b'', off'', eb, hltl, d0, d1, d2, d3⟩ := hM.lit hX.b0 (k := la) hla; cases eb; rw [HU.out] at d1) | (go_at_call 33; (with_reducible refine (risSmall_any _ _).mono ?_); rintro e w' ⟨rfl, rfl⟩))
  go_quiet ((first | (go_at_call 35; exact Calls.quiet_of_same (rvalue_any _ _)) | (go_at_call 34; exact Calls.quiet_of_same (HR _))))
  go_wp2_with fail
  have hX2 := (hX.step (d := (w6.alloc (.cells #[.int .i64 14, .int .i64 la, .int .i64 1] 56)).drewN nq) (by (repeat' (first | (with_reducible exact Below.refl _ _) | (with_reducible assumption) | (with_reducible refine below_drewN ?_ _) | (with_reducible refine Below.alloc ?_ ?_ _) | (with_reducible refine Below.drew ?_) | (with_reducible refine Below.setCell ?_ ?_ _) | go_size))) h0).step' (d := ((((w6.alloc (.cells #[.int .i64 14, .int .i64 la, .int .i64 1] 56)).drewN nq).setCell ⟨g, 0, none⟩ (.int .i64 r)).alloc (.cells #[.int .i64 r] 3))) (by (repeat' (first | (with_reducible exact Below.refl _ _) | (with_reducible assumption) | (with_reducible refine below_drewN ?_ _) | (with_reducible refine Below.alloc ?_ ?_ _) | (with_reducible refine Below.drew ?_) | (with_reducible refine Below.setCell ?_ ?_ _) | go_size))) h0
  have hown1 : (((w6.alloc (.cells #[.int .i64 14, .int .i64 la, .int .i64 1] 56)).drewN nq)).ownsRow (w.heap.size + 1 + 1 + 1) 3 1 (.slice (some ⟨g, 0, none⟩) 1 cap) 1 [.int .i64 a] := (own_take hown2 (m := 1) (by omega)).alloc (.cells #[.int .i64 14, .int .i64 la, .int .i64 1] 56)
  have hown3 := ((hown1.stored 0 (.int .i64 r)).1).alloc (.cells #[.int .i64 r] 3)
  have hown4 : ((((w6.alloc (.cells #[.int .i64 14, .int .i64 la, .int .i64 1] 56)).drewN nq).setCell ⟨g, 0, none⟩ (.int .i64 r)).alloc (.cells #[.int .i64 r] 3)).ownsRow (w.heap.size + 1 + 1 + 1) 3 1 (.slice (some ⟨g, 0, none⟩) 1 cap) 1 [.int .i64 r] := hown3
  clear hX hown2 hown1 hown3 s0 s1 fg0 hgl c0 c1 c2 hlt d0 d1 d2 d3 hltl
  (try clear b0 bw lt m m0 m1 m2 m3 m4 m5 r0 r1 r2 r3 o0 o1 o2 o3 fr hl0 hl1 hl2 ff0 ff1 ff2 ff3 fe0 fe1 fe2 fe3)
  obtain ⟨X, hXe⟩ : ∃ X, X = ((((w6.alloc (.cells #[.int .i64 14, .int .i64 la, .int .i64 1] 56)).drewN nq).setCell ⟨g, 0, none⟩ (.int .i64 r)).alloc (.cells #[.int .i64 r] 3)) := ⟨_, rfl⟩
  rw [← hXe] at hX2 hown4 ⊢
  clear hXe
  obtain ⟨hX, hown2⟩ := And.intro hX2 hown4
  clear hX2 hown4
  have hX' := hX; obtain ⟨b0, bw, lt, m, r0, r1, r2, r3, o0, o1, o2, o3, fr⟩   := hX'; have m0 := m 0 _ rfl; have m1 := m 1 _ rfl; have m2 := m 2 _ rfl; have m3 := m 3 _ rfl; have m4 := m 4 _ rfl; have m5 := m 5 _ rfl; have hl0 := Nat.lt_trans (Nat.lt_succ_self _) (Nat.lt_trans (Nat.lt_succ_self _) lt); have hl1 := Nat.lt_trans (Nat.lt_succ_self _) lt; have hl2 := lt; have ff0 := fr (w.heap.size + 1 + 1) 0 (by omega) (by omega); have ff1 := fr (w.heap.size + 1 + 1) 1 (by omega) (by omega); have ff2 := fr (w.heap.size + 1 + 1) 2 (by omega) (by omega); have ff3 := fr (w.heap.size + 1 + 1) 3 (by omega) (by omega); have fe0 := fr (w.heap.size + 1) 0 (by omega) (by omega); have fe1 := fr (w.heap.size + 1) 1 (by omega) (by omega); have fe2 := fr (w.heap.size + 1) 2 (by omega) (by omega); have fe3 := fr (w.heap.size + 1) 3 (by omega) (by omega)
  have s0 := (hown2.cellAt 0 (by simp)).trans rfl
  have hgl := cell_lt s0
  have hne1 : g ≠ w.heap.size + 1 := by omega
  have hne1' := hne1.symm
  rw [rounds_succ]
  go_wp2_with fail
  refine bodyPost_ret (v := .tuple #[.agg #[.int .i64 ((q : Int) + 1 + 1 + 1), .slice (some ⟨g, 0, none⟩) 1 cap, .int .i64 (-1), .int .i64 0], .bool true]) (by simp [results, Try.results17, go_sem, *]) rfl ⟨some ⟨g, 0, none⟩, cap, by rw [show (q : Int) + 1 + 1 + 1 = (q : Int) + 3 by omega]; rfl, fun _ => ⟨g, 0, rfl, by simp only [World.size_alloc, World.size_setCell, World.size_drew, size_drewN]; exact hgl, fun i hi j hj => by obtain rfl : i = 0 := (by simp at hi; omega); obtain rfl : j = 0 := (by omega); simp [go_sem, *]⟩, ?_⟩
  (have hS := hX.bw; have hV := hS.size; (repeat' (first | (with_reducible exact Below.refl _ _) | (with_reducible assumption) | (with_reducible refine below_drewN ?_ _) | (with_reducible refine Below.alloc ?_ ?_ _) | (with_reducible refine Below.drew ?_) | (with_reducible refine Below.setCell ?_ ?_ _) | go_size)))

end
end Go.Proofs.Ytjiidjcehhdnbaa
